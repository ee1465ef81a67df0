/-
  Functions of the program as functions on plain data (written by gen3.py).
-/
import Derived.Test.YtkgjhnmpcnjooaaDoorAbGen3
namespace Go.Ab
open Go Go.Proofs
variable [MM]
/-! turnery/turneryref1.Scan -/
noncomputable def ref1_Scan_L2 (a0 : ByteArray) (y11 : Int) : Option (Lp Int Int) :=
 (if (decide (y11 < (a0.size : Int))) then
 ((sidx a0 y11).bind fun x4 =>
 some ((x4.toNat : Int) != 10))
 else
 (some false)).bind fun p2 =>
 if p2 then
 (some (.next (w64 (y11 + 1))))
 else
 (some (.out y11))
noncomputable def ref1_Scan_L3 (a0 : ByteArray) (y17 : Int) : Option (Lp Int Int) :=
 (if (decide ((w64 (y17 + 1)) < (a0.size : Int))) then
 ((sidx a0 y17).bind fun x6 =>
 if ((x6.toNat : Int) != 42) then
 (some true)
 else
 ((sidx a0 (w64 (y17 + 1))).bind fun x7 =>
 some ((x7.toNat : Int) != 47)))
 else
 (some false)).bind fun p4 =>
 if p4 then
 (some (.next (w64 (y17 + 1))))
 else
 (some (.out y17))
noncomputable def ref1_Scan_J1 (y5 : (List XApi_Token)) (y6 : Int) (x11 : (XApi_Token × Int × Int)) (y18 : Int) : Option (Lp ((List XApi_Token) × Int) (Br (List XApi_Token) ((List XApi_Token) × XApi_Fault))) :=
 if (y18 != 0) then
 ((ref1_fault y18 y6).bind fun x12 =>
 some (.out (.ret ([], x12))))
 else
 ((app y5 ([(XApi_Token.mk x11.1.Kind x11.1.Text x11.1.N y6)] : List XApi_Token)).bind fun x13 =>
 some (.next (x13, (w64 (y6 + x11.2.1)))))
noncomputable def ref1_Scan_L1 (a0 : ByteArray) (y5 : (List XApi_Token)) (y6 : Int) : Option (Lp ((List XApi_Token) × Int) (Br (List XApi_Token) ((List XApi_Token) × XApi_Fault))) :=
 if (decide (y6 < (a0.size : Int))) then
 ((sidx a0 y6).bind fun x2 =>
 if (if (if ((x2.toNat : Int) == 32) then true else ((x2.toNat : Int) == 9)) then true else ((x2.toNat : Int) == 10)) then
 (some (.next (y5, (w64 (y6 + 1)))))
 else
 ((if (if ((x2.toNat : Int) == 47) then (decide ((w64 (y6 + 1)) < (a0.size : Int))) else false) then
 ((sidx a0 (w64 (y6 + 1))).bind fun x3 =>
 some ((x3.toNat : Int) == 47))
 else
 (some false)).bind fun p1 =>
 if p1 then
 ((Loop (fun (s : Int) => ref1_Scan_L2 a0 s) y6).bind fun v1 =>
 some (.next (y5, v1)))
 else
 ((if (if ((x2.toNat : Int) == 47) then (decide ((w64 (y6 + 1)) < (a0.size : Int))) else false) then
 ((sidx a0 (w64 (y6 + 1))).bind fun x5 =>
 some ((x5.toNat : Int) == 42))
 else
 (some false)).bind fun p3 =>
 if p3 then
 ((Loop (fun (s : Int) => ref1_Scan_L3 a0 s) (w64 (y6 + 2))).bind fun v2 =>
 if (decide ((a0.size : Int) ≤ (w64 (v2 + 1)))) then
 ((ref1_fault 1 y6).bind fun x8 =>
 some (.out (.ret ([], x8))))
 else
 (some (.next (y5, (w64 (v2 + 2))))))
 else
 (if ((y5.length : Int) == 800) then
 ((ref1_fault 10 y6).bind fun x9 =>
 some (.out (.ret ([], x9))))
 else
 ((sslc a0 (some y6) none).bind fun x10 =>
 (ref1_next x10).bind fun x11 =>
 if (x11.2.2 == 2) then
 (ref1_Scan_J1 y5 y6 x11 1)
 else
 (ref1_Scan_J1 y5 y6 x11 x11.2.2))))))
 else
 (some (.out (.brk y5)))
noncomputable def ref1_Scan (a0 : ByteArray) : Option ((List XApi_Token) × XApi_Fault) :=
 if (decide (2000 < (a0.size : Int))) then
 ((ref1_fault 2 0).bind fun x1 =>
 some ([], x1))
 else
 ((Loop (fun (s : ((List XApi_Token) × Int)) => ref1_Scan_L1 a0 s.1 s.2) ([], 0)).bind (Br.go (fun v3 =>
 some (v3, (XApi_Fault.mk 0 0))) (fun r1 => some r1)))
abbrev R_ref1_Scan (r : ((List XApi_Token) × XApi_Fault)) : AV := (.tup [(.own ((r.1).map cXApi_Token)), (.agg (cXApi_Fault r.2))])
def RR_ref1_Scan (r : ((List XApi_Token) × XApi_Fault)) (x : Exit × St) : Prop := x.1 = .ret ∧ Fin cx [.tmp 2, .cell 3 24] [] (R_ref1_Scan r) [] x
set_option maxHeartbeats 4000000 in
theorem T_ref1_Scan {nn : Nat} {a0 : ByteArray} {r : ((List XApi_Token) × XApi_Fault)} (hF : ref1_Scan a0 = some r) : den cx (nn + 5) 10 [(AV.val (.string a0))] = some (R_ref1_Scan r, []) := by
 unfold ref1_Scan at hF
 refine fnA Tryd.func10 Tryd.ntmps10 (by exact spine) (sl := [0]) ?_
 refine sr <| pp oAssign <| ww oAlloc <| nl <| sq <| sr <| pp oMove <| pp oLenS <| pp oGtr <| nl <| ?_
 refine cd hF (fun hF => ?_) (fun hF => ?_)
 · refine sr <| ?_
   refine bb hF fun x1 h1 hF => ?_
   refine pp (oCall (T_ref1_fault h1)) <| pp oAssign <| ww oStR <| nl <| rt <| qsR <| ?_
   obtain rfl := inj hF
   exact fin
 · refine sk <| qs <| sr <| pp oAssign <| nl <| sr <| pp oAssign <| nl <| sq <| ?_
   refine lpR (fun (s : ((List XApi_Token) × Int)) => mkSt 140 [0, 3, 4, 5] [(AV.val (.string a0)), (.ownp (cXApi_Fault (XApi_Fault.mk 0 0))), (.own ((s.1).map cXApi_Token)), (I s.2)]) (fun (s : (List XApi_Token)) => mkSt 140 [3, 4] [(.ownp (cXApi_Fault (XApi_Fault.mk 0 0))), (.own ((s).map cXApi_Token))]) RR_ref1_Scan hF cutR' ?_ ?_ ?_
   · rintro ⟨y5, y6⟩ z1 hF
     replace hF : ref1_Scan_L1 a0 y5 y6 = some z1 := hF
     unfold ref1_Scan_L1 at hF
     refine mk ?_
     refine sq <| sr <| pp oMove <| pp oMove <| pp oLenS <| pp oLss <| nl <| ?_
     refine cd hF (fun hF => ?_) (fun hF => ?_)
     · refine sk <| qs <| bl <| sr <| pp oMove <| pp oMove <| ?_
       refine bb hF fun x2 h2 hF => ?_
       refine pp (oIxS h2) <| pp oAssign <| nl <| sq <| sr <| pp oMove <| pp oEql <| pp oMove <| pg ar oMove <| pg ar oEql <| pp oPick <| pp oMove <| pg ar oMove <| pg ar oEql <| ?_
       refine pp oPick <| nl <| ?_
       refine cd hF (fun hF => ?_) (fun hF => ?_)
       · refine sr <| pp oMove <| pp oAdd <| pp oAssign <| nl <| ex <| qsE <| qbH <| ?_
         exact ln hF cutR'
       · refine sk <| qs <| sq <| ?_
         refine srC (fun (s : Bool) => mkSt 140 [0, 3, 4, 5, 6, 49] [(AV.val (.string a0)), (.ownp (cXApi_Fault (XApi_Fault.mk 0 0))), (.own ((y5).map cXApi_Token)), (I y6), (AV.val (.int .u8 (x2.toNat : Int))), (B s)]) hF (fun z7 hF => ?_) (fun p1 hF => ?_)
         · refine pp oMove <| pp oEql <| pp oMove <| pg ar oMove <| pg ar oAdd <| pg ar oMove <| pg ar oLenS <| pg ar oLss <| pp oPick <| pp oMove <| ?_
           refine spl (d := 43) hF (fun hF => ?_) (fun hF => ?_)
           · refine pt ar oMove <| pt ar oMove <| pt ar oAdd <| ?_
             refine bb hF fun x3 h3 hF => ?_
             refine pt ar (oIxS h3) <| pt ar oEql <| pp oPickT <| ?_
             obtain rfl := inj hF
             exact nlC cutR'
           · refine no fun u1 k1 hk1 => ?_
             refine no fun u2 k2 hk2 => ?_
             refine no fun u3 k3 hk3 => ?_
             refine no fun u4 k4 hk4 => ?_
             refine no fun u5 k5 hk5 => ?_
             refine pp oPickF <| ?_
             obtain rfl := inj hF
             exact nlC cutR'
         · refine mk ?_
           refine cd hF (fun hF => ?_) (fun hF => ?_)
           · refine sq <| ?_
             refine lp (fun (s : Int) => mkSt 140 [0, 3, 4, 5] [(AV.val (.string a0)), (.ownp (cXApi_Fault (XApi_Fault.mk 0 0))), (.own ((y5).map cXApi_Token)), (I s)]) (fun (s : Int) => mkSt 140 [0, 3, 4, 5] [(AV.val (.string a0)), (.ownp (cXApi_Fault (XApi_Fault.mk 0 0))), (.own ((y5).map cXApi_Token)), (I s)]) hF cutR' ?_ ?_
             · rintro y11 z2 hF
               replace hF : ref1_Scan_L2 a0 y11 = some z2 := hF
               unfold ref1_Scan_L2 at hF
               refine mk ?_
               refine sq <| ?_
               refine srC (fun (s : Bool) => mkSt 140 [0, 3, 4, 5, 59] [(AV.val (.string a0)), (.ownp (cXApi_Fault (XApi_Fault.mk 0 0))), (.own ((y5).map cXApi_Token)), (I y11), (B s)]) hF (fun z3 hF => ?_) (fun p2 hF => ?_)
               · refine pp oMove <| pp oMove <| pp oLenS <| pp oLss <| pp oMove <| ?_
                 refine spl (d := 54) hF (fun hF => ?_) (fun hF => ?_)
                 · refine pt ar oMove <| pt ar oMove <| ?_
                   refine bb hF fun x4 h4 hF => ?_
                   refine pt ar (oIxS h4) <| pt ar oNeq <| pp oPickT <| ?_
                   obtain rfl := inj hF
                   exact nlC cutR'
                 · refine no fun u6 k6 hk6 => ?_
                   refine no fun u7 k7 hk7 => ?_
                   refine no fun u8 k8 hk8 => ?_
                   refine no fun u9 k9 hk9 => ?_
                   refine pp oPickF <| ?_
                   obtain rfl := inj hF
                   exact nlC cutR'
               · refine mk ?_
                 refine cd hF (fun hF => ?_) (fun hF => ?_)
                 · refine sk <| qs <| bl <| rg <| pp oMove <| pp oAdd <| pp oAssign <| nl <| qb <| ?_
                   exact ln hF cutR'
                 · refine ex <| qsE <| ?_
                   exact lx hF cutR'
             · intro v1 hF
               refine qmk ?_
               refine qs <| ex <| qsE <| qbH <| ?_
               exact ln hF cutR'
           · refine sk <| qs <| sq <| ?_
             refine srC (fun (s : Bool) => mkSt 140 [0, 3, 4, 5, 77] [(AV.val (.string a0)), (.ownp (cXApi_Fault (XApi_Fault.mk 0 0))), (.own ((y5).map cXApi_Token)), (I y6), (B s)]) hF (fun z6 hF => ?_) (fun p3 hF => ?_)
             · refine pp oMove <| pp oEql <| pp oMove <| pg ar oMove <| pg ar oAdd <| pg ar oMove <| pg ar oLenS <| pg ar oLss <| pp oPick <| pp oMove <| ?_
               refine spl (d := 71) hF (fun hF => ?_) (fun hF => ?_)
               · refine pt ar oMove <| pt ar oMove <| pt ar oAdd <| ?_
                 refine bb hF fun x5 h5 hF => ?_
                 refine pt ar (oIxS h5) <| pt ar oEql <| pp oPickT <| ?_
                 obtain rfl := inj hF
                 exact nlC cutR'
               · refine no fun u10 k10 hk10 => ?_
                 refine no fun u11 k11 hk11 => ?_
                 refine no fun u12 k12 hk12 => ?_
                 refine no fun u13 k13 hk13 => ?_
                 refine no fun u14 k14 hk14 => ?_
                 refine pp oPickF <| ?_
                 obtain rfl := inj hF
                 exact nlC cutR'
             · refine mk ?_
               refine cd hF (fun hF => ?_) (fun hF => ?_)
               · refine sr <| pp oMove <| pp oAdd <| pp oAssign <| nl <| sq <| ?_
                 refine lp (fun (s : Int) => mkSt 140 [0, 3, 4, 5, 7] [(AV.val (.string a0)), (.ownp (cXApi_Fault (XApi_Fault.mk 0 0))), (.own ((y5).map cXApi_Token)), (I y6), (I s)]) (fun (s : Int) => mkSt 140 [0, 3, 4, 5, 7] [(AV.val (.string a0)), (.ownp (cXApi_Fault (XApi_Fault.mk 0 0))), (.own ((y5).map cXApi_Token)), (I y6), (I s)]) hF cutR' ?_ ?_
                 · rintro y17 z4 hF
                   replace hF : ref1_Scan_L3 a0 y17 = some z4 := hF
                   unfold ref1_Scan_L3 at hF
                   refine mk ?_
                   refine sq <| ?_
                   refine srC (fun (s : Bool) => mkSt 140 [0, 3, 4, 5, 7, 97] [(AV.val (.string a0)), (.ownp (cXApi_Fault (XApi_Fault.mk 0 0))), (.own ((y5).map cXApi_Token)), (I y6), (I y17), (B s)]) hF (fun z5 hF => ?_) (fun p4 hF => ?_)
                   · refine pp oMove <| pp oAdd <| pp oMove <| pp oLenS <| pp oLss <| pp oMove <| ?_
                     refine spl (d := 85) hF (fun hF => ?_) (fun hF => ?_)
                     · refine pt ar oMove <| pt ar oMove <| ?_
                       refine bb hF fun x6 h6 hF => ?_
                       refine pt ar (oIxS h6) <| pt ar oNeq <| pt ar oMove <| ?_
                       refine splG (d := 90) hF (fun hF => ?_) (fun hF => ?_)
                       · refine no fun u15 k15 hk15 => ?_
                         refine no fun u16 k16 hk16 => ?_
                         refine no fun u17 k17 hk17 => ?_
                         refine no fun u18 k18 hk18 => ?_
                         refine no fun u19 k19 hk19 => ?_
                         refine pt ar oPickT <| pp oPickT <| ?_
                         obtain rfl := inj hF
                         exact nlC cutR'
                       · refine pt ar oMove <| pt ar oMove <| pt ar oAdd <| ?_
                         refine bb hF fun x7 h7 hF => ?_
                         refine pt ar (oIxS h7) <| pt ar oNeq <| pt ar oPickF <| pp oPickT <| ?_
                         obtain rfl := inj hF
                         exact nlC cutR'
                     · refine no fun u20 k20 hk20 => ?_
                       refine no fun u21 k21 hk21 => ?_
                       refine no fun u22 k22 hk22 => ?_
                       refine no fun u23 k23 hk23 => ?_
                       refine no fun u24 k24 hk24 => ?_
                       refine no fun u25 k25 hk25 => ?_
                       refine no fun u26 k26 hk26 => ?_
                       refine no fun u27 k27 hk27 => ?_
                       refine no fun u28 k28 hk28 => ?_
                       refine no fun u29 k29 hk29 => ?_
                       refine no fun u30 k30 hk30 => ?_
                       refine pp oPickF <| ?_
                       obtain rfl := inj hF
                       exact nlC cutR'
                   · refine mk ?_
                     refine cd hF (fun hF => ?_) (fun hF => ?_)
                     · refine sk <| qs <| bl <| rg <| pp oMove <| pp oAdd <| pp oAssign <| nl <| qb <| ?_
                       exact ln hF cutR'
                     · refine ex <| qsE <| ?_
                       exact lx hF cutR'
                 · intro v2 hF
                   refine qmk ?_
                   refine qs <| sq <| sr <| pp oMove <| pp oAdd <| pp oMove <| pp oLenS <| pp oGeq <| nl <| ?_
                   refine cd hF (fun hF => ?_) (fun hF => ?_)
                   · refine sr <| pp oMove <| ?_
                     refine bb hF fun x8 h8 hF => ?_
                     refine pp (oCall (T_ref1_fault h8)) <| pp oAssign <| ww oStR <| nl <| rt <| qsR <| qsR <| qbR <| ?_
                     exact lr hF ⟨rfl, fin⟩
                   · refine sk <| qs <| sr <| pp oMove <| pp oAdd <| pp oAssign <| nl <| ex <| qsE <| qbH <| ?_
                     exact ln hF cutR'
               · refine sk <| qs <| sq <| sr <| pp oMove <| pp (oLenRs (m := y5.length)) <| pp oEql <| nl <| ?_
                 refine cd hF (fun hF => ?_) (fun hF => ?_)
                 · refine sr <| pp oMove <| ?_
                   refine bb hF fun x9 h9 hF => ?_
                   refine pp (oCall (T_ref1_fault h9)) <| pp oAssign <| ww oStR <| nl <| rt <| qsR <| qbR <| ?_
                   exact lr hF ⟨rfl, fin⟩
                 · refine sk <| qs <| sr <| pp oMove <| pp oMove <| ?_
                   refine bb hF fun x10 h10 hF => ?_
                   refine pp (oSlcS h10) <| ?_
                   refine bb hF fun x11 h11 hF => ?_
                   refine pp (oCall (T_ref1_next h11)) <| pp oMove <| pp oExt <| pp oExt <| pp oExt <| ww oAlloc <| ww oStR <| pp oAssign <| pp oAssign <| nl <| ?_
                   refine sjn (r := z1) (fun (s : Int) => mkSt 140 [0, 3, 4, 5, 8, 9, 10] [(AV.val (.string a0)), (.ownp (cXApi_Fault (XApi_Fault.mk 0 0))), (.own ((y5).map cXApi_Token)), (I y6), (.ownp (cXApi_Token x11.1)), (I x11.2.1), (I s)]) (fun s => ref1_Scan_J1 y5 y6 x11 s) ?_ ?_
                   · refine sr <| pp oMove <| pp oEql <| nl <| ?_
                     refine cd hF (fun hF => ?_) (fun hF => ?_)
                     · refine rg <| pp oAssign <| nl <| ?_
                       exact qj 1 hF cutR'
                     · refine sk <| ?_
                       exact qj x11.2.2 hF cutR'
                   · rintro y18 hF
                     replace hF : ref1_Scan_J1 y5 y6 x11 y18 = some z1 := hF
                     unfold ref1_Scan_J1 at hF
                     refine mk ?_
                     refine sq <| sr <| pp oMove <| pp oNeq <| nl <| ?_
                     refine cd hF (fun hF => ?_) (fun hF => ?_)
                     · refine sr <| pp oMove <| pp oMove <| ?_
                       refine bb hF fun x12 h12 hF => ?_
                       refine pp (oCall (T_ref1_fault h12)) <| pp oAssign <| ww oStR <| nl <| rt <| qsR <| qbR <| ?_
                       exact lr hF ⟨rfl, fin⟩
                     · refine sk <| qs <| sr <| pp oMove <| pp oFAM <| ww oStR <| nl <| sr <| pp oMove <| rr oLdRA <| pp oBSF <| ?_
                       refine bb hF fun x13 h13 hF => ?_
                       refine ww (oApp h13) <| pp oAssign <| nl <| rg <| pp oMove <| pp oMove <| pp oAdd <| pp oAssign <| nl <| qb <| ?_
                       exact ln hF cutR'
     · refine ex <| qsE <| ?_
       exact lxR hF cutR'
   · intro v3 hF
     refine qmk ?_
     refine qs <| sr <| pp oMove <| pp oBuild <| pp oAssign <| ww oStR <| nl <| rt <| ?_
     obtain rfl := inj hF
     exact fin
   · rintro r1 hF ⟨xe, xs⟩ ⟨hxe, hfin⟩
     obtain rfl : xe = Exit.ret := hxe
     obtain rfl := inj hF
     refine qbR <| qsR <| ?_
     exact hfin

/-! turnery/turnerysame.Tokens -/
noncomputable def same_Tokens_L1 (a0 : (List XApi_Token)) (a1 : (List XApi_Token)) (y4 : Int) : Option (Lp Int (Br Unit Bool)) :=
 if (decide (y4 < (a0.length : Int))) then
 ((idx a0 y4).bind fun x1 =>
 (idx a1 y4).bind fun x2 =>
 if (!((x1.Kind == x2.Kind) && ((x1.Text.toList == x2.Text.toList) && ((x1.N == x2.N) && ((x1.At == x2.At) && true))))) then
 (some (.out (.ret false)))
 else
 (some (.next (w64 (y4 + 1)))))
 else
 (some (.out (.brk ())))
noncomputable def same_Tokens (a0 : (List XApi_Token)) (a1 : (List XApi_Token)) : Option Bool :=
 if ((a0.length : Int) != (a1.length : Int)) then
 (some false)
 else
 ((Loop (fun (s : Int) => same_Tokens_L1 a0 a1 s) 0).bind (Br.go (fun _ =>
 some true) (fun r1 => some r1)))
abbrev R_same_Tokens (r : Bool) : AV := (B r)
def RR_same_Tokens (r : Bool) (x : Exit × St) : Prop := x.1 = .ret ∧ Fin cx [.tmp 4] [] (R_same_Tokens r) [] x
set_option maxHeartbeats 4000000 in
theorem T_same_Tokens {nn : Nat} {a0 : (List XApi_Token)} {a1 : (List XApi_Token)} {r : Bool} (hF : same_Tokens a0 a1 = some r) : den cx (nn + 1) 11 [(.sl ((a0).map cXApi_Token)), (.sl ((a1).map cXApi_Token))] = some (R_same_Tokens r, []) := by
 unfold same_Tokens at hF
 refine fnA Tryd.func11 Tryd.ntmps11 (by exact spine) (sl := [0, 1]) ?_
 refine sr <| pp oAssign <| nl <| sq <| sr <| pp oMove <| pp oLenSl <| pp oMove <| pp oLenSl <| pp oNeq <| nl <| ?_
 refine cd hF (fun hF => ?_) (fun hF => ?_)
 · refine sr <| pp oAssign <| nl <| rt <| qsR <| ?_
   obtain rfl := inj hF
   exact fin
 · refine sk <| qs <| sq <| sr <| pp oAssign <| nl <| ?_
   refine lpR (fun (s : Int) => mkSt 26 [0, 1, 5] [(.sl ((a0).map cXApi_Token)), (.sl ((a1).map cXApi_Token)), (I s)]) (fun (s : Unit) => mkSt 26 [] []) RR_same_Tokens hF cutR' ?_ ?_ ?_
   · rintro y4 z1 hF
     replace hF : same_Tokens_L1 a0 a1 y4 = some z1 := hF
     unfold same_Tokens_L1 at hF
     refine mk ?_
     refine sq <| sr <| pp oMove <| pp oMove <| pp oLenSl <| pp oLss <| nl <| ?_
     refine cd hF (fun hF => ?_) (fun hF => ?_)
     · refine sk <| qs <| sq <| bl <| srD <| pp oMove <| pp oMove <| ?_
       refine bb hF fun x1 h1 hF => ?_
       refine pp (oIx h1) <| pp oLdA <| pp oMove <| pp oMove <| ?_
       refine bb hF fun x2 h2 hF => ?_
       refine pp (oIx h2) <| pp oLdA <| pp (oStq (eq36_neq ..)) <| nlD <| ?_
       refine cd hF (fun hF => ?_) (fun hF => ?_)
       · refine sr <| pp oAssign <| nl <| rt <| qbR <| qsR <| ?_
         exact lr hF ⟨rfl, fin⟩
       · refine sk <| qb <| qs <| rg <| pp oMove <| pp oAdd <| pp oAssign <| nl <| ?_
         exact ln hF cutR'
     · refine ex <| qsE <| ?_
       exact lxR hF cutR'
   · intro _ hF
     refine qmk ?_
     refine qs <| sr <| pp oAssign <| nl <| rt <| ?_
     obtain rfl := inj hF
     exact fin
   · rintro r1 hF ⟨xe, xs⟩ ⟨hxe, hfin⟩
     obtain rfl : xe = Exit.ret := hxe
     obtain rfl := inj hF
     refine qbR <| qsR <| ?_
     exact hfin

/-! turnery/turnerylaw1.TokenSays -/

noncomputable def law1_TokenSays (a0 : ByteArray) : Option Bool :=
 if (decide (3000 < (a0.size : Int))) then
 (some true)
 else
 ((token_Scan a0).bind fun x1 =>
 (ref1_Scan a0).bind fun x2 =>
 (if ((x1.2.Code == x2.2.Code) && ((x1.2.At == x2.2.At) && true)) then
 ((same_Tokens x1.1 x2.1).bind fun x3 =>
 some x3)
 else
 (some false)).bind fun p1 =>
 some p1)
abbrev R_law1_TokenSays (r : Bool) : AV := (B r)
set_option maxHeartbeats 4000000 in
theorem T_law1_TokenSays {nn : Nat} {a0 : ByteArray} {r : Bool} (hF : law1_TokenSays a0 = some r) : den cx (nn + 9) 3 [(AV.val (.string a0))] = some (R_law1_TokenSays r, []) := by
 unfold law1_TokenSays at hF
 refine fnA Tryd.func3 Tryd.ntmps3 (by exact spine) (sl := [0]) ?_
 refine sr <| pp oAssign <| nl <| sq <| sr <| pp oMove <| pp oLenS <| pp oGtr <| nl <| ?_
 refine cd hF (fun hF => ?_) (fun hF => ?_)
 · refine sr <| pp oAssign <| nl <| rt <| qsR <| ?_
   obtain rfl := inj hF
   exact fin
 · refine sk <| qs <| sr <| pp oMove <| ?_
   refine bb hF fun x1 h1 hF => ?_
   refine pp (oCallZ (T_token_Scan h1)) <| pp oMove <| pp oExt <| pp oExt <| ww oAlloc <| pp oAssign <| ww oStF <| nl <| sr <| pp oMove <| ?_
   refine bb hF fun x2 h2 hF => ?_
   refine pp (oCallZ (T_ref1_Scan h2)) <| pp oMove <| pp oExt <| pp oExt <| ww oAlloc <| pp oAssign <| ww oStF <| nl <| ?_
   refine srC (fun (s : Bool) => mkSt 28 [2] [(B s)]) hF (fun z1 hF => ?_) (fun p1 hF => ?_)
   · refine pp oLdA <| pp oLdA <| pp (oStq (eq24_eql ..)) <| pp oMove <| ?_
     refine spl (d := 23) hF (fun hF => ?_) (fun hF => ?_)
     · refine pt ar oMove <| pt ar oMove <| ?_
       refine bb hF fun x3 h3 hF => ?_
       refine pt ar (oCall (T_same_Tokens h3)) <| pp oPickT <| pp oAssign <| ?_
       obtain rfl := inj hF
       exact nlC cutR'
     · refine no fun u1 k1 hk1 => ?_
       refine no fun u2 k2 hk2 => ?_
       refine no fun u3 k3 hk3 => ?_
       refine pp oPickF <| pp oAssign <| ?_
       obtain rfl := inj hF
       exact nlC cutR'
   · refine mk ?_
     refine rt <| ?_
     obtain rfl := inj hF
     exact fin

/-! turnery/core.Within -/

noncomputable def core_Within (a0 : Int) (a1 : Int) (a2 : Int) : Option Bool :=
 some (if (decide (a1 ≤ a0)) then (decide (a0 ≤ a2)) else false)
abbrev R_core_Within (r : Bool) : AV := (B r)
set_option maxHeartbeats 4000000 in
theorem T_core_Within {nn : Nat} {a0 : Int} {a1 : Int} {a2 : Int} {r : Bool} (hF : core_Within a0 a1 a2 = some r) : den cx (nn + 1) 44 [(I a0), (I a1), (I a2)] = some (R_core_Within r, []) := by
 unfold core_Within at hF
 refine fnA Tryd.func44 Tryd.ntmps44 (by exact spine) (sl := [0, 1, 2]) ?_
 refine sr <| pp oAssign <| nl <| sr <| pp oMove <| pp oMove <| pp oGeq <| pp oMove <| pg ar oMove <| pg ar oMove <| pg ar oLeq <| pp oPick <| pp oAssign <| nl <| ?_
 refine rt <| ?_
 obtain rfl := inj hF
 exact fin

/-! turnery/token.right -/

noncomputable def token_right (a0 : XApi_Token) : Option Int :=
 (core_Within a0.Kind 1 4).bind fun x1 =>
 if (!x1) then
 (some 4)
 else
 (if (if (a0.Text.toList == (ByteArray.mk #[]).toList) then true else (decide (a0.At < 0))) then
 (some 5)
 else
 ((token_next a0.Text).bind fun x2 =>
 if (if (if (if (x2.2.2 != 0) then true else (x2.2.1 != (a0.Text.size : Int))) then true else (x2.1.Kind != a0.Kind)) then true else (x2.1.N != a0.N)) then
 (some 5)
 else
 (some 0)))
abbrev R_token_right (r : Int) : AV := (I r)
set_option maxHeartbeats 4000000 in
theorem T_token_right {nn : Nat} {a0 : XApi_Token} {r : Int} (hF : token_right a0 = some r) : den cx (nn + 8) 22 [(.agg (cXApi_Token a0))] = some (R_token_right r, []) := by
 unfold token_right at hF
 refine fnA Tryd.func22 Tryd.ntmps22 (by exact spine) (sl := [0]) ?_
 refine sr <| pp oBoxF <| pp oAssign <| nl <| sq <| sr <| pp oFA <| pp oLd <| ?_
 refine bb hF fun x1 h1 hF => ?_
 refine pp (oCallZ (T_core_Within h1)) <| pp oNot <| nl <| ?_
 refine cd hF (fun hF => ?_) (fun hF => ?_)
 · refine sr <| pp oAssign <| nl <| rt <| qsR <| ?_
   obtain rfl := inj hF
   exact fin
 · refine sk <| qs <| sq <| sr <| pp oFA <| pp oLd <| pp oEqlS <| pp oMove <| pg ar oFA <| pg ar oLd <| pg ar oLss <| pp oPick <| nl <| ?_
   refine cd hF (fun hF => ?_) (fun hF => ?_)
   · refine sr <| pp oAssign <| nl <| rt <| qsR <| ?_
     obtain rfl := inj hF
     exact fin
   · refine sk <| qs <| sr <| pp oFA <| pp oLd <| ?_
     refine bb hF fun x2 h2 hF => ?_
     refine pp (oCallZ (T_token_next h2)) <| pp oMove <| pp oExt <| pp oExt <| pp oExt <| ww oAlloc <| ww oStF <| pp oAssign <| pp oAssign <| nl <| sq <| sr <| pp oMove <| pp oNeq <| ?_
     refine pp oMove <| pg ar oMove <| pg ar oFA <| pg ar oLd <| pg ar oLenS <| pg ar oNeq <| pp oPick <| pp oMove <| pg ar oFA <| pg ar oLd <| pg ar oFA <| pg ar oLd <| pg ar oNeq <| pp oPick <| ?_
     refine pp oMove <| pg ar oFA <| pg ar oLd <| pg ar oFA <| pg ar oLd <| pg ar oNeq <| pp oPick <| nl <| ?_
     refine cd hF (fun hF => ?_) (fun hF => ?_)
     · refine sr <| pp oAssign <| nl <| rt <| qsR <| ?_
       obtain rfl := inj hF
       exact fin
     · refine sk <| qs <| sr <| pp oAssign <| nl <| rt <| ?_
       obtain rfl := inj hF
       exact fin

/-! strings.Join: by contract -/
theorem T_ext23 {nn : Nat} {a0 : (List ByteArray)} {a1 : ByteArray} {r : ByteArray} (hF : joinS a0 a1 = some r) : den cx (nn + 1) 23 [(.sl ((a0).map cStr)), (AV.val (.string a1))] = some ((AV.val (.string r)), []) := joinA_of hF

/-! turnery/token.Text -/
noncomputable def token_Text_L1 (a0 : (List XApi_Token)) (y6 : (List ByteArray)) (y7 : Int) : Option (Lp ((List ByteArray) × Int) (Br (List ByteArray) (ByteArray × XApi_Fault))) :=
 if (decide (y7 < (a0.length : Int))) then
 ((idx a0 y7).bind fun x2 =>
 (token_right x2).bind fun x3 =>
 if (x3 != 0) then
 ((core_Fault x3 y7).bind fun x4 =>
 some (.out (.ret ((ByteArray.mk #[]), x4))))
 else
 ((app y6 ([x2.Text] : List ByteArray)).bind fun x5 =>
 some (.next (x5, (w64 (y7 + 1))))))
 else
 (some (.out (.brk y6)))
noncomputable def token_Text (a0 : (List XApi_Token)) : Option (ByteArray × XApi_Fault) :=
 if (decide (800 < (a0.length : Int))) then
 ((core_Fault 2 0).bind fun x1 =>
 some ((ByteArray.mk #[]), x1))
 else
 ((Loop (fun (s : ((List ByteArray) × Int)) => token_Text_L1 a0 s.1 s.2) ([], 0)).bind (Br.go (fun v1 =>
 (joinS v1 (ByteArray.mk #[32])).bind fun x6 =>
 if (decide (2000 < (x6.size : Int))) then
 ((core_Fault 10 0).bind fun x7 =>
 some ((ByteArray.mk #[]), x7))
 else
 (some (x6, (XApi_Fault.mk 0 0)))) (fun r1 => some r1)))
abbrev R_token_Text (r : (ByteArray × XApi_Fault)) : AV := (.tup [(AV.val (.string r.1)), (.agg (cXApi_Fault r.2))])
def RR_token_Text (r : (ByteArray × XApi_Fault)) (x : Exit × St) : Prop := x.1 = .ret ∧ Fin cx [.tmp 2, .cell 3 24] [] (R_token_Text r) [] x
set_option maxHeartbeats 4000000 in
theorem T_token_Text {nn : Nat} {a0 : (List XApi_Token)} {r : (ByteArray × XApi_Fault)} (hF : token_Text a0 = some r) : den cx (nn + 9) 12 [(.sl ((a0).map cXApi_Token))] = some (R_token_Text r, []) := by
 unfold token_Text at hF
 refine fnA Tryd.func12 Tryd.ntmps12 (by exact spine) (sl := [0]) ?_
 refine sr <| pp oAssign <| ww oAlloc <| nl <| sq <| sr <| pp oMove <| pp oLenSl <| pp oGtr <| nl <| ?_
 refine cd hF (fun hF => ?_) (fun hF => ?_)
 · refine sr <| ?_
   refine bb hF fun x1 h1 hF => ?_
   refine pp (oCall (T_core_Fault h1)) <| pp oAssign <| ww oStR <| nl <| rt <| qsR <| ?_
   obtain rfl := inj hF
   exact fin
 · refine sk <| qs <| sr <| pp oAssign <| nl <| sq <| sr <| pp oMove <| pp oLenSl <| pp oMove <| nl <| ?_
   refine lpR (fun (s : ((List ByteArray) × Int)) => mkSt 41 [3, 4, 13, 14, 15] [(.ownp (cXApi_Fault (XApi_Fault.mk 0 0))), (.own ((s.1).map cStr)), (.sl ((a0).map cXApi_Token)), (I (a0.length : Int)), (I s.2)]) (fun (s : (List ByteArray)) => mkSt 41 [3, 4] [(.ownp (cXApi_Fault (XApi_Fault.mk 0 0))), (.own ((s).map cStr))]) RR_token_Text hF cutR' ?_ ?_ ?_
   · rintro ⟨y6, y7⟩ z1 hF
     replace hF : token_Text_L1 a0 y6 y7 = some z1 := hF
     unfold token_Text_L1 at hF
     refine mk ?_
     refine sr <| pp oLss <| nl <| sq <| ?_
     refine cd hF (fun hF => ?_) (fun hF => ?_)
     · refine sk <| qs <| sq <| bl <| sr <| pp oMove <| ?_
       refine bb hF fun x2 h2 hF => ?_
       refine pp (oIx h2) <| pp oLdA <| ww oAlloc <| pp oAssign <| ww oStF <| nl <| sq <| sr <| pp oLdA <| ?_
       refine bb hF fun x3 h3 hF => ?_
       refine pp (oCallZ (T_token_right h3)) <| pp oAssign <| nl <| sr <| pp oMove <| pp oNeq <| nl <| ?_
       refine cd hF (fun hF => ?_) (fun hF => ?_)
       · refine sr <| pp oMove <| pp oMove <| ?_
         refine bb hF fun x4 h4 hF => ?_
         refine pp (oCall (T_core_Fault h4)) <| pp oAssign <| ww oStR <| nl <| rt <| qsR <| qbR <| qsR <| ?_
         exact lr hF ⟨rfl, fin⟩
       · refine sk <| qs <| rg <| pp oMove <| pp oFA <| pp oLd <| pp oBSF <| ?_
         refine bb hF fun x5 h5 hF => ?_
         refine ww (oApp h5) <| pp oAssign <| nl <| qb <| qs <| rg <| pp oAdd <| pp oMove <| nl <| ?_
         exact ln hF cutR'
     · refine ex <| qsE <| ?_
       exact lxR hF cutR'
   · intro v1 hF
     refine qmk ?_
     refine qs <| sr <| pp oMove <| ?_
     refine bb hF fun x6 h6 hF => ?_
     refine rr (oCall (T_ext23 h6)) <| pp oAssign <| nl <| sq <| sr <| pp oMove <| pp oLenS <| pp oGtr <| nl <| ?_
     refine cd hF (fun hF => ?_) (fun hF => ?_)
     · refine sr <| ?_
       refine bb hF fun x7 h7 hF => ?_
       refine pp (oCall (T_core_Fault h7)) <| pp oAssign <| ww oStR <| nl <| rt <| qsR <| ?_
       obtain rfl := inj hF
       exact fin
     · refine sk <| qs <| sr <| pp oMove <| pp oBuild <| pp oAssign <| ww oStR <| nl <| rt <| ?_
       obtain rfl := inj hF
       exact fin
   · rintro r1 hF ⟨xe, xs⟩ ⟨hxe, hfin⟩
     obtain rfl : xe = Exit.ret := hxe
     obtain rfl := inj hF
     refine qbR <| qsR <| ?_
     exact hfin

/-! turnery/turneryref1.Text -/
noncomputable def ref1_Text_J1 (y6 : Int) (x2 : XApi_Token) (y7 : ByteArray) : Option (Lp (ByteArray × Int) (Br ByteArray (ByteArray × XApi_Fault))) :=
 (catS y7 x2.Text).bind fun x8 =>
 some (.next (x8, (w64 (y6 + 1))))
noncomputable def ref1_Text_L1 (a0 : (List XApi_Token)) (y5 : ByteArray) (y6 : Int) : Option (Lp (ByteArray × Int) (Br ByteArray (ByteArray × XApi_Fault))) :=
 if (decide (y6 < (a0.length : Int))) then
 ((idx a0 y6).bind fun x2 =>
 (ref1_in x2.Kind 1 4).bind fun x3 =>
 if (!x3) then
 ((ref1_fault 4 y6).bind fun x4 =>
 some (.out (.ret ((ByteArray.mk #[]), x4))))
 else
 (if (if ((x2.Text.size : Int) == 0) then true else (decide (x2.At < 0))) then
 ((ref1_fault 5 y6).bind fun x5 =>
 some (.out (.ret ((ByteArray.mk #[]), x5))))
 else
 ((ref1_next x2.Text).bind fun x6 =>
 if (if (if (if (x6.2.2 != 0) then true else (x6.2.1 != (x2.Text.size : Int))) then true else (x6.1.Kind != x2.Kind)) then true else (x6.1.N != x2.N)) then
 ((ref1_fault 5 y6).bind fun x7 =>
 some (.out (.ret ((ByteArray.mk #[]), x7))))
 else
 (if (decide (0 < y6)) then
 ((catS y5 (ByteArray.mk #[32])).bind fun x9 =>
 ref1_Text_J1 y6 x2 x9)
 else
 (ref1_Text_J1 y6 x2 y5)))))
 else
 (some (.out (.brk y5)))
noncomputable def ref1_Text (a0 : (List XApi_Token)) : Option (ByteArray × XApi_Fault) :=
 if (decide (800 < (a0.length : Int))) then
 ((ref1_fault 2 0).bind fun x1 =>
 some ((ByteArray.mk #[]), x1))
 else
 ((Loop (fun (s : (ByteArray × Int)) => ref1_Text_L1 a0 s.1 s.2) ((ByteArray.mk #[]), 0)).bind (Br.go (fun v1 =>
 if (decide (2000 < (v1.size : Int))) then
 ((ref1_fault 10 0).bind fun x10 =>
 some ((ByteArray.mk #[]), x10))
 else
 (some (v1, (XApi_Fault.mk 0 0)))) (fun r1 => some r1)))
abbrev R_ref1_Text (r : (ByteArray × XApi_Fault)) : AV := (.tup [(AV.val (.string r.1)), (.agg (cXApi_Fault r.2))])
def RR_ref1_Text (r : (ByteArray × XApi_Fault)) (x : Exit × St) : Prop := x.1 = .ret ∧ Fin cx [.tmp 2, .cell 3 24] [] (R_ref1_Text r) [] x
set_option maxHeartbeats 4000000 in
theorem T_ref1_Text {nn : Nat} {a0 : (List XApi_Token)} {r : (ByteArray × XApi_Fault)} (hF : ref1_Text a0 = some r) : den cx (nn + 5) 13 [(.sl ((a0).map cXApi_Token))] = some (R_ref1_Text r, []) := by
 unfold ref1_Text at hF
 refine fnA Tryd.func13 Tryd.ntmps13 (by exact spine) (sl := [0]) ?_
 refine sr <| pp oAssign <| ww oAlloc <| nl <| sq <| sr <| pp oMove <| pp oLenSl <| pp oGtr <| nl <| ?_
 refine cd hF (fun hF => ?_) (fun hF => ?_)
 · refine sr <| ?_
   refine bb hF fun x1 h1 hF => ?_
   refine pp (oCall (T_ref1_fault h1)) <| pp oAssign <| ww oStR <| nl <| rt <| qsR <| ?_
   obtain rfl := inj hF
   exact fin
 · refine sk <| qs <| sr <| pp oAssign <| nl <| sq <| sr <| pp oAssign <| nl <| ?_
   refine lpR (fun (s : (ByteArray × Int)) => mkSt 87 [0, 3, 4, 5] [(.sl ((a0).map cXApi_Token)), (.ownp (cXApi_Fault (XApi_Fault.mk 0 0))), (AV.val (.string s.1)), (I s.2)]) (fun (s : ByteArray) => mkSt 87 [3, 4] [(.ownp (cXApi_Fault (XApi_Fault.mk 0 0))), (AV.val (.string s))]) RR_ref1_Text hF cutR' ?_ ?_ ?_
   · rintro ⟨y5, y6⟩ z1 hF
     replace hF : ref1_Text_L1 a0 y5 y6 = some z1 := hF
     unfold ref1_Text_L1 at hF
     refine mk ?_
     refine sq <| sr <| pp oMove <| pp oMove <| pp oLenSl <| pp oLss <| nl <| ?_
     refine cd hF (fun hF => ?_) (fun hF => ?_)
     · refine sk <| qs <| sq <| bl <| sr <| pp oMove <| pp oMove <| ?_
       refine bb hF fun x2 h2 hF => ?_
       refine pp (oIx h2) <| pp oLdA <| ww oAlloc <| ww oStF <| nl <| sq <| sr <| pp oFA <| pp oLd <| ?_
       refine bb hF fun x3 h3 hF => ?_
       refine pp (oCallZ (T_ref1_in h3)) <| pp oNot <| nl <| ?_
       refine cd hF (fun hF => ?_) (fun hF => ?_)
       · refine sr <| pp oMove <| ?_
         refine bb hF fun x4 h4 hF => ?_
         refine pp (oCall (T_ref1_fault h4)) <| pp oAssign <| ww oStR <| nl <| rt <| qsR <| qbR <| qsR <| ?_
         exact lr hF ⟨rfl, fin⟩
       · refine sk <| qs <| sq <| sr <| pp oFA <| pp oLd <| pp oLenS <| pp oEql <| pp oMove <| pg ar oFA <| pg ar oLd <| pg ar oLss <| pp oPick <| nl <| ?_
         refine cd hF (fun hF => ?_) (fun hF => ?_)
         · refine sr <| pp oMove <| ?_
           refine bb hF fun x5 h5 hF => ?_
           refine pp (oCall (T_ref1_fault h5)) <| pp oAssign <| ww oStR <| nl <| rt <| qsR <| qbR <| qsR <| ?_
           exact lr hF ⟨rfl, fin⟩
         · refine sk <| qs <| sr <| pp oFA <| pp oLd <| ?_
           refine bb hF fun x6 h6 hF => ?_
           refine pp (oCallZ (T_ref1_next h6)) <| pp oMove <| pp oExt <| pp oExt <| pp oExt <| ww oAlloc <| ww oStF <| pp oAssign <| pp oAssign <| nl <| sq <| sr <| pp oMove <| pp oNeq <| ?_
           refine pp oMove <| pg ar oMove <| pg ar oFA <| pg ar oLd <| pg ar oLenS <| pg ar oNeq <| pp oPick <| pp oMove <| pg ar oFA <| pg ar oLd <| pg ar oFA <| pg ar oLd <| pg ar oNeq <| pp oPick <| ?_
           refine pp oMove <| pg ar oFA <| pg ar oLd <| pg ar oFA <| pg ar oLd <| pg ar oNeq <| pp oPick <| nl <| ?_
           refine cd hF (fun hF => ?_) (fun hF => ?_)
           · refine sr <| pp oMove <| ?_
             refine bb hF fun x7 h7 hF => ?_
             refine pp (oCall (T_ref1_fault h7)) <| pp oAssign <| ww oStR <| nl <| rt <| qsR <| qbR <| qsR <| ?_
             exact lr hF ⟨rfl, fin⟩
           · refine sk <| qs <| ?_
             refine sjn (r := z1) (fun (s : ByteArray) => mkSt 87 [0, 3, 4, 5, 6] [(.sl ((a0).map cXApi_Token)), (.ownp (cXApi_Fault (XApi_Fault.mk 0 0))), (AV.val (.string s)), (I y6), (.vp (cXApi_Token x2))]) (fun s => ref1_Text_J1 y6 x2 s) ?_ ?_
             · refine sr <| pp oMove <| pp oGtr <| nl <| ?_
               refine cd hF (fun hF => ?_) (fun hF => ?_)
               · refine rg <| pp oMove <| ?_
                 refine bb hF fun x9 h9 hF => ?_
                 refine pp (oAddS h9) <| pp oAssign <| nl <| ?_
                 exact qj x9 hF cutR'
               · refine sk <| ?_
                 exact qj y5 hF cutR'
             · rintro y7 hF
               replace hF : ref1_Text_J1 y6 x2 y7 = some z1 := hF
               unfold ref1_Text_J1 at hF
               refine mk ?_
               refine rg <| pp oMove <| pp oFA <| pp oLd <| ?_
               refine bb hF fun x8 h8 hF => ?_
               refine pp (oAddS h8) <| pp oAssign <| nl <| qb <| qs <| rg <| pp oMove <| pp oAdd <| pp oAssign <| nl <| ?_
               exact ln hF cutR'
     · refine ex <| qsE <| ?_
       exact lxR hF cutR'
   · intro v1 hF
     refine qmk ?_
     refine qs <| sq <| sr <| pp oMove <| pp oLenS <| pp oGtr <| nl <| ?_
     refine cd hF (fun hF => ?_) (fun hF => ?_)
     · refine sr <| ?_
       refine bb hF fun x10 h10 hF => ?_
       refine pp (oCall (T_ref1_fault h10)) <| pp oAssign <| ww oStR <| nl <| rt <| qsR <| ?_
       obtain rfl := inj hF
       exact fin
     · refine sk <| qs <| sr <| pp oMove <| pp oBuild <| pp oAssign <| ww oStR <| nl <| rt <| ?_
       obtain rfl := inj hF
       exact fin
   · rintro r1 hF ⟨xe, xs⟩ ⟨hxe, hfin⟩
     obtain rfl : xe = Exit.ret := hxe
     obtain rfl := inj hF
     refine qbR <| qsR <| ?_
     exact hfin

/-! turnery/turnerylaw1.TokenWrites -/

noncomputable def law1_TokenWrites (a0 : (List XApi_Token)) : Option Bool :=
 if (decide (1000 < (a0.length : Int))) then
 (some true)
 else
 ((token_Text a0).bind fun x1 =>
 (ref1_Text a0).bind fun x2 =>
 some (if ((x1.2.Code == x2.2.Code) && ((x1.2.At == x2.2.At) && true)) then (x1.1.toList == x2.1.toList) else false))
abbrev R_law1_TokenWrites (r : Bool) : AV := (B r)
set_option maxHeartbeats 4000000 in
theorem T_law1_TokenWrites {nn : Nat} {a0 : (List XApi_Token)} {r : Bool} (hF : law1_TokenWrites a0 = some r) : den cx (nn + 10) 4 [(.sl ((a0).map cXApi_Token))] = some (R_law1_TokenWrites r, []) := by
 unfold law1_TokenWrites at hF
 refine fnA Tryd.func4 Tryd.ntmps4 (by exact spine) (sl := [0]) ?_
 refine sr <| pp oAssign <| nl <| sq <| sr <| pp oMove <| pp oLenSl <| pp oGtr <| nl <| ?_
 refine cd hF (fun hF => ?_) (fun hF => ?_)
 · refine sr <| pp oAssign <| nl <| rt <| qsR <| ?_
   obtain rfl := inj hF
   exact fin
 · refine sk <| qs <| sr <| pp oMove <| ?_
   refine bb hF fun x1 h1 hF => ?_
   refine pp (oCallZ (T_token_Text h1)) <| pp oMove <| pp oExt <| pp oExt <| ww oAlloc <| pp oAssign <| ww oStF <| nl <| sr <| pp oMove <| ?_
   refine bb hF fun x2 h2 hF => ?_
   refine pp (oCallZ (T_ref1_Text h2)) <| pp oMove <| pp oExt <| pp oExt <| ww oAlloc <| pp oAssign <| ww oStF <| nl <| sr <| pp oLdA <| pp oLdA <| pp (oStq (eq24_eql ..)) <| pp oMove <| pg ar oMove <| ?_
   refine pg ar oMove <| pg ar oEqlS <| pp oPick <| pp oAssign <| nl <| rt <| ?_
   obtain rfl := inj hF
   exact fin

/-! turnery/turnerylaw1.tokenFact -/

noncomputable def law1_tokenFact  : Option Bool :=
 (token_Scan (ByteArray.mk #[120, 49, 43, 61, 48, 120, 49, 102])).bind fun x1 =>
 (token_Text x1.1).bind fun x2 =>
 (if (if (if (x1.2.Code == 0) then (x2.2.Code == 0) else false) then ((x1.1.length : Int) == 3) else false) then
 ((idx x1.1 2).bind fun x3 =>
 if (x3.N == 31) then
 ((idx x1.1 2).bind fun x4 =>
 some (if (x4.At == 4) then (x2.1.toList == (ByteArray.mk #[120, 49, 32, 43, 61, 32, 48, 120, 49, 102]).toList) else false))
 else
 (some false))
 else
 (some false)).bind fun p1 =>
 some p1
abbrev R_law1_tokenFact (r : Bool) : AV := (B r)
set_option maxHeartbeats 4000000 in
theorem T_law1_tokenFact {nn : Nat}  {r : Bool} (hF : law1_tokenFact = some r) : den cx (nn + 10) 14 [] = some (R_law1_tokenFact r, []) := by
 unfold law1_tokenFact at hF
 refine fnA Tryd.func14 Tryd.ntmps14 (by exact spine) (sl := []) ?_
 refine sr <| pp oAssign <| nl <| sr <| ?_
 refine bb hF fun x1 h1 hF => ?_
 refine pp (oCallZ (T_token_Scan h1)) <| pp oMove <| pp oExt <| pp oExt <| ww oAlloc <| pp oAssign <| ww oStF <| nl <| sr <| pp oMove <| ?_
 refine bb hF fun x2 h2 hF => ?_
 refine pp (oCallZ (T_token_Text h2)) <| pp oMove <| pp oExt <| pp oExt <| ww oAlloc <| pp oAssign <| ww oStF <| nl <| ?_
 refine srC (fun (s : Bool) => mkSt 45 [0] [(B s)]) hF (fun z1 hF => ?_) (fun p1 hF => ?_)
 · refine pp oFA <| pp oLd <| pp oEql <| pp oMove <| pg ar oFA <| pg ar oLd <| pg ar oEql <| pp oPick <| pp oMove <| pg ar oMove <| pg ar oLenSl <| pg ar oEql <| pp oPick <| pp oMove <| ?_
   refine spl (d := 27) hF (fun hF => ?_) (fun hF => ?_)
   · refine pt ar oMove <| ?_
     refine bb hF fun x3 h3 hF => ?_
     refine pt ar (oIx h3) <| pt ar oFA <| pt ar oLd <| pt ar oEql <| pp oPickT <| pp oMove <| ?_
     refine spl (d := 34) hF (fun hF => ?_) (fun hF => ?_)
     · refine pt ar oMove <| ?_
       refine bb hF fun x4 h4 hF => ?_
       refine pt ar (oIx h4) <| pt ar oFA <| pt ar oLd <| pt ar oEql <| pp oPickT <| pp oMove <| pg ar oMove <| pg ar oEqlS <| pp oPick <| pp oAssign <| ?_
       obtain rfl := inj hF
       exact nlC cutR'
     · refine no fun u1 k1 hk1 => ?_
       refine no fun u2 k2 hk2 => ?_
       refine no fun u3 k3 hk3 => ?_
       refine no fun u4 k4 hk4 => ?_
       refine no fun u5 k5 hk5 => ?_
       refine pp oPickF <| pp oMove <| ?_
       refine no fun u6 k6 hk6 => ?_
       refine no fun u7 k7 hk7 => ?_
       refine pp oPickF <| pp oAssign <| ?_
       obtain rfl := inj hF
       exact nlC cutR'
   · refine no fun u8 k8 hk8 => ?_
     refine no fun u9 k9 hk9 => ?_
     refine no fun u10 k10 hk10 => ?_
     refine no fun u11 k11 hk11 => ?_
     refine no fun u12 k12 hk12 => ?_
     refine pp oPickF <| pp oMove <| ?_
     refine no fun u13 k13 hk13 => ?_
     refine no fun u14 k14 hk14 => ?_
     refine no fun u15 k15 hk15 => ?_
     refine no fun u16 k16 hk16 => ?_
     refine no fun u17 k17 hk17 => ?_
     refine pp oPickF <| pp oMove <| ?_
     refine no fun u18 k18 hk18 => ?_
     refine no fun u19 k19 hk19 => ?_
     refine pp oPickF <| pp oAssign <| ?_
     obtain rfl := inj hF
     exact nlC cutR'
 · refine mk ?_
   refine rt <| ?_
   obtain rfl := inj hF
   exact fin

/-! turnery/turnerylaw1.bare -/
noncomputable def law1_bare_L1 (a0 : (List XApi_Token)) (y4 : (List XApi_Token)) (y5 : Int) : Option (Lp ((List XApi_Token) × Int) (List XApi_Token)) :=
 if (decide (y5 < (a0.length : Int))) then
 ((idx a0 y5).bind fun x1 =>
 (app y4 ([(XApi_Token.mk x1.Kind x1.Text x1.N 0)] : List XApi_Token)).bind fun x2 =>
 some (.next (x2, (w64 (y5 + 1)))))
 else
 (some (.out y4))
noncomputable def law1_bare (a0 : (List XApi_Token)) : Option (List XApi_Token) :=
 (Loop (fun (s : ((List XApi_Token) × Int)) => law1_bare_L1 a0 s.1 s.2) ([], 0)).bind fun v1 =>
 some v1
abbrev R_law1_bare (r : (List XApi_Token)) : AV := (.own ((r).map cXApi_Token))
set_option maxHeartbeats 4000000 in
theorem T_law1_bare {nn : Nat} {a0 : (List XApi_Token)} {r : (List XApi_Token)} (hF : law1_bare a0 = some r) : den cx (nn + 1) 15 [(.sl ((a0).map cXApi_Token))] = some (R_law1_bare r, []) := by
 unfold law1_bare at hF
 refine fnA Tryd.func15 Tryd.ntmps15 (by exact spine) (sl := [0]) ?_
 refine sr <| pp oAssign <| nl <| sr <| pp oAssign <| nl <| sq <| sr <| pp oAssign <| nl <| ?_
 refine lp (fun (s : ((List XApi_Token) × Int)) => mkSt 22 [0, 3, 4] [(.sl ((a0).map cXApi_Token)), (.own ((s.1).map cXApi_Token)), (I s.2)]) (fun (s : (List XApi_Token)) => mkSt 22 [3] [(.own ((s).map cXApi_Token))]) hF cutR' ?_ ?_
 · rintro ⟨y4, y5⟩ z1 hF
   replace hF : law1_bare_L1 a0 y4 y5 = some z1 := hF
   unfold law1_bare_L1 at hF
   refine mk ?_
   refine sq <| sr <| pp oMove <| pp oMove <| pp oLenSl <| pp oLss <| nl <| ?_
   refine cd hF (fun hF => ?_) (fun hF => ?_)
   · refine sk <| qs <| sq <| bl <| sr <| pp oMove <| pp oMove <| ?_
     refine bb hF fun x1 h1 hF => ?_
     refine pp (oIx h1) <| pp oLdA <| ww oAlloc <| ww oStR <| nl <| sr <| pp oFAM <| ww oStR <| nl <| rg <| pp oMove <| rr oLdRA <| pp oBSF <| ?_
     refine bb hF fun x2 h2 hF => ?_
     refine ww (oApp h2) <| pp oAssign <| nl <| qb <| qs <| rg <| pp oMove <| pp oAdd <| pp oAssign <| nl <| ?_
     exact ln hF cutR'
   · refine ex <| qsE <| ?_
     exact lx hF cutR'
 · intro v1 hF
   refine qmk ?_
   refine qs <| sr <| pp oMove <| pp oAssign <| nl <| rt <| ?_
   obtain rfl := inj hF
   exact fin

/-! turnery/turnerylaw1.TokenBack -/
noncomputable def law1_TokenBack_J1 (a1 : ByteArray) : Option Bool :=
 (token_Scan a1).bind fun x3 =>
 if (x3.2.Code != 0) then
 (some ((x3.1.length : Int) == 0))
 else
 ((token_Text x3.1).bind fun x4 =>
 if (x4.2.Code != 0) then
 (some (x4.2.Code == 10))
 else
 ((token_Scan x4.1).bind fun x5 =>
 (if (x5.2.Code == 0) then
 ((law1_bare x5.1).bind fun x6 =>
 (law1_bare x3.1).bind fun x7 =>
 (same_Tokens x6 x7).bind fun x8 =>
 some x8)
 else
 (some false)).bind fun p1 =>
 some p1))
noncomputable def law1_TokenBack (a0 : (List XApi_Token)) (a1 : ByteArray) : Option Bool :=
 (law1_tokenFact).bind fun x1 =>
 if (!x1) then
 (some false)
 else
 ((token_Text a0).bind fun x2 =>
 if (x2.2.Code == 0) then
 ((token_Scan x2.1).bind fun x9 =>
 (if (x9.2.Code != 0) then
 (some true)
 else
 ((law1_bare x9.1).bind fun x10 =>
 (law1_bare a0).bind fun x11 =>
 (same_Tokens x10 x11).bind fun x12 =>
 some (!x12))).bind fun p2 =>
 if p2 then
 (some false)
 else
 (law1_TokenBack_J1 a1))
 else
 (if (x2.1.toList != (ByteArray.mk #[]).toList) then
 (some false)
 else
 (law1_TokenBack_J1 a1)))
abbrev R_law1_TokenBack (r : Bool) : AV := (B r)
set_option maxHeartbeats 4000000 in
theorem T_law1_TokenBack {nn : Nat} {a0 : (List XApi_Token)} {a1 : ByteArray} {r : Bool} (hF : law1_TokenBack a0 a1 = some r) : den cx (nn + 11) 5 [(.sl ((a0).map cXApi_Token)), (AV.val (.string a1))] = some (R_law1_TokenBack r, []) := by
 unfold law1_TokenBack at hF
 refine fnA Tryd.func5 Tryd.ntmps5 (by exact spine) (sl := [0, 1]) ?_
 refine sr <| pp oAssign <| nl <| sr <| ?_
 refine bb hF fun x1 h1 hF => ?_
 refine pp (oCallZ (T_law1_tokenFact h1)) <| pp oAssign <| nl <| sq <| sr <| pp oMove <| pp oNot <| nl <| ?_
 refine cd hF (fun hF => ?_) (fun hF => ?_)
 · refine sr <| pp oAssign <| nl <| rt <| qsR <| ?_
   obtain rfl := inj hF
   exact fin
 · refine sk <| qs <| sr <| pp oMove <| ?_
   refine bb hF fun x2 h2 hF => ?_
   refine pp (oCallZ (T_token_Text h2)) <| pp oMove <| pp oExt <| pp oExt <| ww oAlloc <| pp oAssign <| ww oStR <| nl <| ?_
   refine sjn (r := r) (fun (s : Unit) => mkSt 78 [1, 7] [(AV.val (.string a1)), (.ownp (cXApi_Fault x2.2))]) (fun _ => law1_TokenBack_J1 a1) ?_ ?_
   · refine sr <| pp oFAM <| rr oLdR <| pp oEql <| nl <| ?_
     refine cd hF (fun hF => ?_) (fun hF => ?_)
     · refine sr <| pp oMove <| ?_
       refine bb hF fun x9 h9 hF => ?_
       refine pp (oCallZ (T_token_Scan h9)) <| pp oMove <| pp oExt <| pp oExt <| ww oAlloc <| pp oAssign <| ww oStF <| nl <| ?_
       refine srC (fun (s : Bool) => mkSt 78 [1, 7, 38] [(AV.val (.string a1)), (.ownp (cXApi_Fault x2.2)), (B s)]) hF (fun z2 hF => ?_) (fun p2 hF => ?_)
       · refine pp oFA <| pp oLd <| pp oNeq <| pp oMove <| ?_
         refine spl (d := 31) hF (fun hF => ?_) (fun hF => ?_)
         · refine no fun u6 k6 hk6 => ?_
           refine no fun u7 k7 hk7 => ?_
           refine no fun u8 k8 hk8 => ?_
           refine no fun u9 k9 hk9 => ?_
           refine no fun u10 k10 hk10 => ?_
           refine no fun u11 k11 hk11 => ?_
           refine pp oPickT <| ?_
           obtain rfl := inj hF
           exact nlC cutR'
         · refine pt ar oMove <| ?_
           refine bb hF fun x10 h10 hF => ?_
           refine pt ar (oCallZ (T_law1_bare h10)) <| pt ar oMove <| ?_
           refine bb hF fun x11 h11 hF => ?_
           refine pt ar (oCallZ (T_law1_bare h11)) <| ?_
           refine bb hF fun x12 h12 hF => ?_
           refine pt ar (oCallZ (T_same_Tokens h12)) <| pt ar oNot <| pp oPickF <| ?_
           obtain rfl := inj hF
           exact nlC cutR'
       · refine mk ?_
         refine cd hF (fun hF => ?_) (fun hF => ?_)
         · refine sr <| pp oAssign <| nl <| rt <| qjR <| ?_
           obtain rfl := inj hF
           exact fin
         · refine sk <| ?_
           exact qj () hF cutR'
     · refine sr <| pp oMove <| pp oNeqS <| nl <| ?_
       refine cd hF (fun hF => ?_) (fun hF => ?_)
       · refine sr <| pp oAssign <| nl <| rt <| qjR <| ?_
         obtain rfl := inj hF
         exact fin
       · refine sk <| ?_
         exact qj () hF cutR'
   · rintro _ hF
     replace hF : law1_TokenBack_J1 a1 = some r := hF
     unfold law1_TokenBack_J1 at hF
     refine mk ?_
     refine sr <| pp oMove <| ?_
     refine bb hF fun x3 h3 hF => ?_
     refine pp (oCallZ (T_token_Scan h3)) <| pp oMove <| pp oExt <| pp oExt <| pp oAssign <| ww oStR <| nl <| sq <| sr <| pp oFAM <| rr oLdR <| pp oNeq <| nl <| ?_
     refine cd hF (fun hF => ?_) (fun hF => ?_)
     · refine sr <| pp oMove <| pp oLenSl <| pp oEql <| pp oAssign <| nl <| rt <| qsR <| ?_
       obtain rfl := inj hF
       exact fin
     · refine sk <| qs <| sr <| pp oMove <| ?_
       refine bb hF fun x4 h4 hF => ?_
       refine pp (oCallZ (T_token_Text h4)) <| pp oMove <| pp oExt <| pp oExt <| pp oAssign <| ww oStR <| nl <| sq <| sr <| pp oFAM <| rr oLdR <| pp oNeq <| nl <| ?_
       refine cd hF (fun hF => ?_) (fun hF => ?_)
       · refine sr <| pp oFAM <| rr oLdR <| pp oEql <| pp oAssign <| nl <| rt <| qsR <| ?_
         obtain rfl := inj hF
         exact fin
       · refine sk <| qs <| sr <| pp oMove <| ?_
         refine bb hF fun x5 h5 hF => ?_
         refine pp (oCallZ (T_token_Scan h5)) <| pp oMove <| pp oExt <| pp oExt <| pp oAssign <| ww oStR <| nl <| ?_
         refine srC (fun (s : Bool) => mkSt 78 [4] [(B s)]) hF (fun z1 hF => ?_) (fun p1 hF => ?_)
         · refine pp oFAM <| rr oLdR <| pp oEql <| pp oMove <| ?_
           refine spl (d := 71) hF (fun hF => ?_) (fun hF => ?_)
           · refine pt ar oMove <| ?_
             refine bb hF fun x6 h6 hF => ?_
             refine pt ar (oCallZ (T_law1_bare h6)) <| pt ar oMove <| ?_
             refine bb hF fun x7 h7 hF => ?_
             refine pt ar (oCallZ (T_law1_bare h7)) <| ?_
             refine bb hF fun x8 h8 hF => ?_
             refine pt ar (oCall (T_same_Tokens h8)) <| pp oPickT <| pp oAssign <| ?_
             obtain rfl := inj hF
             exact nlC cutR'
           · refine no fun u1 k1 hk1 => ?_
             refine no fun u2 k2 hk2 => ?_
             refine no fun u3 k3 hk3 => ?_
             refine no fun u4 k4 hk4 => ?_
             refine no fun u5 k5 hk5 => ?_
             refine pp oPickF <| pp oAssign <| ?_
             obtain rfl := inj hF
             exact nlC cutR'
         · refine mk ?_
           refine rt <| ?_
           obtain rfl := inj hF
           exact fin

/-! turnery/turnerylaw1.TokenJoin -/
noncomputable def law1_TokenJoin_L1 (a0 : ByteArray) (x3 : ((List XApi_Token) × XApi_Fault)) (y7 : (List XApi_Token)) (y8 : Int) : Option (Lp ((List XApi_Token) × Int) (List XApi_Token)) :=
 if (decide (y8 < (x3.1.length : Int))) then
 ((idx x3.1 y8).bind fun x8 =>
 (app y7 ([(XApi_Token.mk x8.Kind x8.Text x8.N (w64 ((w64 (x8.At + (a0.size : Int))) + 1)))] : List XApi_Token)).bind fun x9 =>
 some (.next (x9, (w64 (y8 + 1)))))
 else
 (some (.out y7))
noncomputable def law1_TokenJoin (a0 : ByteArray) (a1 : ByteArray) : Option Bool :=
 (law1_tokenFact).bind fun x1 =>
 if (!x1) then
 (some false)
 else
 (if (decide (1900 < (w64 ((a0.size : Int) + (a1.size : Int))))) then
 (some true)
 else
 ((token_Scan a0).bind fun x2 =>
 (token_Scan a1).bind fun x3 =>
 (catS a0 (ByteArray.mk #[10])).bind fun x4 =>
 (catS x4 a1).bind fun x5 =>
 (token_Scan x5).bind fun x6 =>
 if (x2.2.Code != 0) then
 (some (if (x2.2.Code == 1) then true else ((x6.2.Code == x2.2.Code) && ((x6.2.At == x2.2.At) && true))))
 else
 (if (if (x3.2.Code != 0) then true else (decide (800 < (w64 ((x2.1.length : Int) + (x3.1.length : Int)))))) then
 (some (x6.2.Code != 0))
 else
 ((app [] x2.1).bind fun x7 =>
 (Loop (fun (s : ((List XApi_Token) × Int)) => law1_TokenJoin_L1 a0 x3 s.1 s.2) (x7, 0)).bind fun v1 =>
 (if (x6.2.Code == 0) then
 ((same_Tokens x6.1 v1).bind fun x10 =>
 some x10)
 else
 (some false)).bind fun p1 =>
 some p1))))
abbrev R_law1_TokenJoin (r : Bool) : AV := (B r)
set_option maxHeartbeats 4000000 in
theorem T_law1_TokenJoin {nn : Nat} {a0 : ByteArray} {a1 : ByteArray} {r : Bool} (hF : law1_TokenJoin a0 a1 = some r) : den cx (nn + 11) 6 [(AV.val (.string a0)), (AV.val (.string a1))] = some (R_law1_TokenJoin r, []) := by
 unfold law1_TokenJoin at hF
 refine fnA Tryd.func6 Tryd.ntmps6 (by exact spine) (sl := [0, 1]) ?_
 refine sr <| pp oAssign <| nl <| sr <| ?_
 refine bb hF fun x1 h1 hF => ?_
 refine pp (oCallZ (T_law1_tokenFact h1)) <| pp oAssign <| nl <| sq <| sr <| pp oMove <| pp oNot <| nl <| ?_
 refine cd hF (fun hF => ?_) (fun hF => ?_)
 · refine sr <| pp oAssign <| nl <| rt <| qsR <| ?_
   obtain rfl := inj hF
   exact fin
 · refine sk <| qs <| sq <| sr <| pp oMove <| pp oLenS <| pp oMove <| pp oLenS <| pp oAdd <| pp oGtr <| nl <| ?_
   refine cd hF (fun hF => ?_) (fun hF => ?_)
   · refine sr <| pp oAssign <| nl <| rt <| qsR <| ?_
     obtain rfl := inj hF
     exact fin
   · refine sk <| qs <| sr <| pp oMove <| ?_
     refine bb hF fun x2 h2 hF => ?_
     refine pp (oCallZ (T_token_Scan h2)) <| pp oMove <| pp oExt <| pp oExt <| ww oAlloc <| pp oAssign <| ww oStF <| nl <| sr <| pp oMove <| ?_
     refine bb hF fun x3 h3 hF => ?_
     refine pp (oCallZ (T_token_Scan h3)) <| pp oMove <| pp oExt <| pp oExt <| ww oAlloc <| pp oAssign <| ww oStF <| nl <| sr <| pp oMove <| ?_
     refine bb hF fun x4 h4 hF => ?_
     refine pp (oAddS h4) <| pp oMove <| ?_
     refine bb hF fun x5 h5 hF => ?_
     refine pp (oAddS h5) <| ?_
     refine bb hF fun x6 h6 hF => ?_
     refine pp (oCallZ (T_token_Scan h6)) <| pp oMove <| pp oExt <| pp oExt <| ww oAlloc <| pp oAssign <| ww oStF <| nl <| sq <| sr <| pp oFA <| pp oLd <| pp oNeq <| nl <| ?_
     refine cd hF (fun hF => ?_) (fun hF => ?_)
     · refine sr <| pp oFA <| pp oLd <| pp oEql <| pp oMove <| pg ar oLdA <| pg ar oLdA <| pg ar (oStq (eq24_eql ..)) <| pp oPick <| pp oAssign <| nl <| rt <| qsR <| ?_
       obtain rfl := inj hF
       exact fin
     · refine sk <| qs <| sq <| sr <| pp oFA <| pp oLd <| pp oNeq <| pp oMove <| pg ar oMove <| pg ar oLenSl <| pg ar oMove <| pg ar oLenSl <| pg ar oAdd <| pg ar oGtr <| ?_
       refine pp oPick <| nl <| ?_
       refine cd hF (fun hF => ?_) (fun hF => ?_)
       · refine sr <| pp oFA <| pp oLd <| pp oNeq <| pp oAssign <| nl <| rt <| qsR <| ?_
         obtain rfl := inj hF
         exact fin
       · refine sk <| qs <| sr <| pp oAssign <| nl <| sr <| pp oMove <| pp oMove <| ?_
         refine bb hF fun x7 h7 hF => ?_
         refine ww (oAppN h7) <| pp oAssign <| nl <| sq <| sr <| pp oAssign <| nl <| ?_
         refine lp (fun (s : ((List XApi_Token) × Int)) => mkSt 99 [0, 8, 10, 11, 12, 13] [(AV.val (.string a0)), (.sl ((x3.1).map cXApi_Token)), (.sl ((x6.1).map cXApi_Token)), (.vp (cXApi_Fault x6.2)), (.own ((s.1).map cXApi_Token)), (I s.2)]) (fun (s : (List XApi_Token)) => mkSt 99 [10, 11, 12] [(.sl ((x6.1).map cXApi_Token)), (.vp (cXApi_Fault x6.2)), (.own ((s).map cXApi_Token))]) hF cutR' ?_ ?_
         · rintro ⟨y7, y8⟩ z1 hF
           replace hF : law1_TokenJoin_L1 a0 x3 y7 y8 = some z1 := hF
           unfold law1_TokenJoin_L1 at hF
           refine mk ?_
           refine sq <| sr <| pp oMove <| pp oMove <| pp oLenSl <| pp oLss <| nl <| ?_
           refine cd hF (fun hF => ?_) (fun hF => ?_)
           · refine sk <| qs <| sq <| bl <| sr <| pp oMove <| pp oMove <| ?_
             refine bb hF fun x8 h8 hF => ?_
             refine pp (oIx h8) <| pp oLdA <| ww oAlloc <| ww oStR <| nl <| sr <| pp oFAM <| rr oLdR <| pp oMove <| pp oLenS <| pp oAdd <| pp oAdd <| pp oFAM <| ww oStR <| ?_
             refine nl <| rg <| pp oMove <| rr oLdRA <| pp oBSF <| ?_
             refine bb hF fun x9 h9 hF => ?_
             refine ww (oApp h9) <| pp oAssign <| nl <| qb <| qs <| rg <| pp oMove <| pp oAdd <| pp oAssign <| nl <| ?_
             exact ln hF cutR'
           · refine ex <| qsE <| ?_
             exact lx hF cutR'
         · intro v1 hF
           refine qmk ?_
           refine qs <| ?_
           refine srC (fun (s : Bool) => mkSt 99 [4] [(B s)]) hF (fun z2 hF => ?_) (fun p1 hF => ?_)
           · refine pp oFA <| pp oLd <| pp oEql <| pp oMove <| ?_
             refine spl (d := 94) hF (fun hF => ?_) (fun hF => ?_)
             · refine pt ar oMove <| pt ar oMove <| ?_
               refine bb hF fun x10 h10 hF => ?_
               refine rt_ ar (oCall (T_same_Tokens h10)) <| pp oPickT <| pp oAssign <| ?_
               obtain rfl := inj hF
               exact nlC cutR'
             · refine no fun u1 k1 hk1 => ?_
               refine no fun u2 k2 hk2 => ?_
               refine no fun u3 k3 hk3 => ?_
               refine pp oPickF <| pp oAssign <| ?_
               obtain rfl := inj hF
               exact nlC cutR'
           · refine mk ?_
             refine rt <| ?_
             obtain rfl := inj hF
             exact fin

/-! turnery/turnerylaw1.in -/

noncomputable def law1_in (a0 : Int) (a1 : Int) (a2 : Int) : Option Bool :=
 some (if (decide (a1 ≤ a0)) then (decide (a0 ≤ a2)) else false)
abbrev R_law1_in (r : Bool) : AV := (B r)
set_option maxHeartbeats 4000000 in
theorem T_law1_in {nn : Nat} {a0 : Int} {a1 : Int} {a2 : Int} {r : Bool} (hF : law1_in a0 a1 a2 = some r) : den cx (nn + 1) 16 [(I a0), (I a1), (I a2)] = some (R_law1_in r, []) := by
 unfold law1_in at hF
 refine fnA Tryd.func16 Tryd.ntmps16 (by exact spine) (sl := [0, 1, 2]) ?_
 refine sr <| pp oAssign <| nl <| sr <| pp oMove <| pp oMove <| pp oGeq <| pp oMove <| pg ar oMove <| pg ar oMove <| pg ar oLeq <| pp oPick <| pp oAssign <| nl <| ?_
 refine rt <| ?_
 obtain rfl := inj hF
 exact fin

end Go.Ab
