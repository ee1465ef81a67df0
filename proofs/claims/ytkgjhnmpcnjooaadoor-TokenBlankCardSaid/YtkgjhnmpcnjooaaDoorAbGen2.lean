/-
  Functions of the program as functions on plain data (written by gen3.py).
-/
import Derived.Test.YtkgjhnmpcnjooaaDoorAbGen1
namespace Go.Ab
open Go Go.Proofs
variable [MM]
/-! internal/strconv.ParseUint -/
noncomputable def internal_strconv_ParseUint_J4 (y17 : Int) (y18 : Bool) (y19 : Int) : Option (Lp (Bool × Int × Int) (Br (Bool × Int) (Int × Er))) :=
 some (.next (y18, y19, (w64 (y17 + 1))))
noncomputable def internal_strconv_ParseUint_J5 (y2 : Int) (y4 : Int) (x1 : Int) (y15 : Bool) (y16 : Int) (y17 : Int) (y20 : Int) : Option (Lp (Bool × Int × Int) (Br (Bool × Int) (Int × Er))) :=
 if (decide ((IntKind.u8.wrap y2) ≤ y20)) then
 (some (.out (.ret (0, (Er.code 2)))))
 else
 (if (decide (y4 ≤ y16)) then
 (some (.out (.ret ((IntKind.u64.wrap (x1 - 1)), (Er.code 1)))))
 else
 (if (if (decide ((IntKind.u64.wrap ((IntKind.u64.wrap (y16 * (IntKind.u64.wrap y2))) + (IntKind.u64.wrap y20))) < (IntKind.u64.wrap (y16 * (IntKind.u64.wrap y2))))) then true else (decide ((IntKind.u64.wrap (x1 - 1)) < (IntKind.u64.wrap ((IntKind.u64.wrap (y16 * (IntKind.u64.wrap y2))) + (IntKind.u64.wrap y20)))))) then
 (some (.out (.ret ((IntKind.u64.wrap (x1 - 1)), (Er.code 1)))))
 else
 (internal_strconv_ParseUint_J4 y17 y15 (IntKind.u64.wrap ((IntKind.u64.wrap (y16 * (IntKind.u64.wrap y2))) + (IntKind.u64.wrap y20))))))
noncomputable def internal_strconv_ParseUint_L1 (a1 : Int) (y1 : ByteArray) (y2 : Int) (y4 : Int) (x1 : Int) (y15 : Bool) (y16 : Int) (y17 : Int) : Option (Lp (Bool × Int × Int) (Br (Bool × Int) (Int × Er))) :=
 if (decide (y17 < ((bytesI y1).length : Int))) then
 ((idx (bytesI y1) y17).bind fun x2 =>
 if (if (x2 == 95) then (a1 == 0) else false) then
 (internal_strconv_ParseUint_J4 y17 true y16)
 else
 (if (if (decide (48 ≤ x2)) then (decide (x2 ≤ 57)) else false) then
 (internal_strconv_ParseUint_J5 y2 y4 x1 y15 y16 y17 (IntKind.u8.wrap (x2 - 48)))
 else
 (((internal_strconv_lower x2).bind fun x3 =>
 if (decide (97 ≤ x3)) then
 ((internal_strconv_lower x2).bind fun x4 =>
 some (decide (x4 ≤ 122)))
 else
 (some false)).bind fun p1 =>
 if p1 then
 ((internal_strconv_lower x2).bind fun x5 =>
 internal_strconv_ParseUint_J5 y2 y4 x1 y15 y16 y17 (IntKind.u8.wrap ((IntKind.u8.wrap (x5 - 97)) + 10)))
 else
 (some (.out (.ret (0, (Er.code 2))))))))
 else
 (some (.out (.brk (y15, y16))))
noncomputable def internal_strconv_ParseUint_J3 (a0 : ByteArray) (a1 : Int) (y1 : ByteArray) (y2 : Int) (y3 : Int) (y4 : Int) : Option (Int × Er) :=
 (shlK .u64 1 (IntKind.u64.wrap y3)).bind fun x1 =>
 (Loop (fun (s : (Bool × Int × Int)) => internal_strconv_ParseUint_L1 a1 y1 y2 y4 x1 s.1 s.2.1 s.2.2) (false, 0, 0)).bind (Br.go (fun v1 =>
 (if v1.1 then
 ((internal_strconv_underscoreOK a0).bind fun x6 =>
 some (!x6))
 else
 (some false)).bind fun p2 =>
 if p2 then
 (some (0, (Er.code 2)))
 else
 (some (v1.2, Er.nil))) (fun r1 => some r1))
noncomputable def internal_strconv_ParseUint_J2 (a0 : ByteArray) (a1 : Int) (y1 : ByteArray) (y2 : Int) (y3 : Int) : Option (Int × Er) :=
 if (y2 == 10) then
 (internal_strconv_ParseUint_J3 a0 a1 y1 y2 y3 1844674407370955162)
 else
 (if (y2 == 16) then
 (internal_strconv_ParseUint_J3 a0 a1 y1 y2 y3 1152921504606846976)
 else
 ((qdiv .u64 18446744073709551615 (IntKind.u64.wrap y2)).bind fun x7 =>
 internal_strconv_ParseUint_J3 a0 a1 y1 y2 y3 (IntKind.u64.wrap (x7 + 1))))
noncomputable def internal_strconv_ParseUint_J1 (a0 : ByteArray) (a1 : Int) (a2 : Int) (y1 : ByteArray) (y2 : Int) : Option (Int × Er) :=
 if (a2 == 0) then
 (internal_strconv_ParseUint_J2 a0 a1 y1 y2 64)
 else
 (if (if (decide (a2 < 0)) then true else (decide (64 < a2))) then
 (some (0, (Er.code 4)))
 else
 (internal_strconv_ParseUint_J2 a0 a1 y1 y2 a2))
noncomputable def internal_strconv_ParseUint (a0 : ByteArray) (a1 : Int) (a2 : Int) : Option (Int × Er) :=
 if (a0.toList == (ByteArray.mk #[]).toList) then
 (some (0, (Er.code 2)))
 else
 (if (if (decide (2 ≤ a1)) then (decide (a1 ≤ 36)) else false) then
 (internal_strconv_ParseUint_J1 a0 a1 a2 a0 a1)
 else
 (if (a1 == 0) then
 ((sidx a0 0).bind fun x8 =>
 if ((x8.toNat : Int) == 48) then
 ((if (decide (3 ≤ (a0.size : Int))) then
 ((sidx a0 1).bind fun x9 =>
 (internal_strconv_lower (x9.toNat : Int)).bind fun x10 =>
 some (x10 == 98))
 else
 (some false)).bind fun p3 =>
 if p3 then
 ((sslc a0 (some 2) none).bind fun x11 =>
 internal_strconv_ParseUint_J1 a0 a1 a2 x11 2)
 else
 ((if (decide (3 ≤ (a0.size : Int))) then
 ((sidx a0 1).bind fun x12 =>
 (internal_strconv_lower (x12.toNat : Int)).bind fun x13 =>
 some (x13 == 111))
 else
 (some false)).bind fun p4 =>
 if p4 then
 ((sslc a0 (some 2) none).bind fun x14 =>
 internal_strconv_ParseUint_J1 a0 a1 a2 x14 8)
 else
 ((if (decide (3 ≤ (a0.size : Int))) then
 ((sidx a0 1).bind fun x15 =>
 (internal_strconv_lower (x15.toNat : Int)).bind fun x16 =>
 some (x16 == 120))
 else
 (some false)).bind fun p5 =>
 if p5 then
 ((sslc a0 (some 2) none).bind fun x17 =>
 internal_strconv_ParseUint_J1 a0 a1 a2 x17 16)
 else
 ((sslc a0 (some 1) none).bind fun x18 =>
 internal_strconv_ParseUint_J1 a0 a1 a2 x18 8))))
 else
 (internal_strconv_ParseUint_J1 a0 a1 a2 a0 10))
 else
 (some (0, (Er.code 3)))))
abbrev R_internal_strconv_ParseUint (r : (Int × Er)) : AV := (.tup [(AV.val (.int .u64 r.1)), (erV 85 r.2)])
def RR_internal_strconv_ParseUint (r : (Int × Er)) (x : Exit × St) : Prop := x.1 = .ret ∧ Fin cx [.tmp 6, .tmp 7] [] (R_internal_strconv_ParseUint r) [] x
set_option maxHeartbeats 4000000 in
theorem T_internal_strconv_ParseUint {nn : Nat} {a0 : ByteArray} {a1 : Int} {a2 : Int} {r : (Int × Er)} (hF : internal_strconv_ParseUint a0 a1 a2 = some r) : den cx (nn + 3) 69 [(AV.val (.string a0)), (I a1), (I a2)] = some (R_internal_strconv_ParseUint r, []) := by
 unfold internal_strconv_ParseUint at hF
 refine fnA Tryd.func69 Tryd.ntmps69 (by exact spine) (sl := [0, 1, 2]) ?_
 refine sr <| pp oAssign <| pp oAssign <| nl <| sq <| sr <| pp oMove <| pp oEqlS <| nl <| ?_
 refine cd hF (fun hF => ?_) (fun hF => ?_)
 · refine sr <| pp oIfC <| pp oAssign <| pp oAssign <| nl <| rt <| qsR <| ?_
   obtain rfl := inj hF
   exact fin
 · refine sk <| qs <| sr <| pp oMove <| pp oEql <| pp oAssign <| nl <| sr <| pp oMove <| pp oAssign <| nl <| ?_
   refine sjn (r := r) (fun (s : (ByteArray × Int)) => mkSt 172 [0, 1, 2, 8, 9] [(AV.val (.string s.1)), (I s.2), (I a2), (B (a1 == 0)), (AV.val (.string a0))]) (fun s => internal_strconv_ParseUint_J1 a0 a1 a2 s.1 s.2) ?_ ?_
   · refine bl <| sr <| pp oMove <| pp oLeq <| pp oMove <| pg ar oMove <| pg ar oLeq <| pp oPick <| pp oAssign <| nl <| ?_
     refine cd hF (fun hF => ?_) (fun hF => ?_)
     · refine sk <| qb <| ?_
       exact qj (a0, a1) hF cutR'
     · refine sr <| pp oMove <| pp oEql <| pp oAssign <| nl <| ?_
       refine cd hF (fun hF => ?_) (fun hF => ?_)
       · refine sr <| pp oAssign <| nl <| sr <| pp oMove <| ?_
         refine bb hF fun x8 h8 hF => ?_
         refine pp (oIxS h8) <| pp oEql <| nl <| ?_
         refine cd hF (fun hF => ?_) (fun hF => ?_)
         · refine bl <| ?_
           refine srC (fun (s : Bool) => mkSt 172 [0, 2, 8, 9, 40] [(AV.val (.string a0)), (I a2), (B (a1 == 0)), (AV.val (.string a0)), (B s)]) hF (fun z6 hF => ?_) (fun p3 hF => ?_)
           · refine pp oMove <| pp oLenS <| pp oGeq <| pp oMove <| ?_
             refine spl (d := 44) hF (fun hF => ?_) (fun hF => ?_)
             · refine pt ar oMove <| ?_
               refine bb hF fun x9 h9 hF => ?_
               refine pt ar (oIxS h9) <| ?_
               refine bb hF fun x10 h10 hF => ?_
               refine pt ar (oCallZ (T_internal_strconv_lower h10)) <| pt ar oEql <| pp oPickT <| pp oAssign <| ?_
               obtain rfl := inj hF
               exact nlC cutR'
             · refine no fun u7 k7 hk7 => ?_
               refine no fun u8 k8 hk8 => ?_
               refine no fun u9 k9 hk9 => ?_
               refine no fun u10 k10 hk10 => ?_
               refine pp oPickF <| pp oAssign <| ?_
               obtain rfl := inj hF
               exact nlC cutR'
           · refine mk ?_
             refine cd hF (fun hF => ?_) (fun hF => ?_)
             · refine sr <| pp oAssign <| nl <| rg <| pp oMove <| ?_
               refine bb hF fun x11 h11 hF => ?_
               refine pp (oSlcS h11) <| pp oAssign <| nl <| qb <| qb <| ?_
               exact qj (x11, 2) hF cutR'
             · refine srC (fun (s : Bool) => mkSt 172 [0, 2, 8, 9, 52] [(AV.val (.string a0)), (I a2), (B (a1 == 0)), (AV.val (.string a0)), (B s)]) hF (fun z5 hF => ?_) (fun p4 hF => ?_)
               · refine pp oMove <| pp oLenS <| pp oGeq <| pp oMove <| ?_
                 refine spl (d := 56) hF (fun hF => ?_) (fun hF => ?_)
                 · refine pt ar oMove <| ?_
                   refine bb hF fun x12 h12 hF => ?_
                   refine pt ar (oIxS h12) <| ?_
                   refine bb hF fun x13 h13 hF => ?_
                   refine pt ar (oCallZ (T_internal_strconv_lower h13)) <| pt ar oEql <| pp oPickT <| pp oAssign <| ?_
                   obtain rfl := inj hF
                   exact nlC cutR'
                 · refine no fun u11 k11 hk11 => ?_
                   refine no fun u12 k12 hk12 => ?_
                   refine no fun u13 k13 hk13 => ?_
                   refine no fun u14 k14 hk14 => ?_
                   refine pp oPickF <| pp oAssign <| ?_
                   obtain rfl := inj hF
                   exact nlC cutR'
               · refine mk ?_
                 refine cd hF (fun hF => ?_) (fun hF => ?_)
                 · refine sr <| pp oAssign <| nl <| rg <| pp oMove <| ?_
                   refine bb hF fun x14 h14 hF => ?_
                   refine pp (oSlcS h14) <| pp oAssign <| nl <| qb <| qb <| ?_
                   exact qj (x14, 8) hF cutR'
                 · refine srC (fun (s : Bool) => mkSt 172 [0, 2, 8, 9, 64] [(AV.val (.string a0)), (I a2), (B (a1 == 0)), (AV.val (.string a0)), (B s)]) hF (fun z4 hF => ?_) (fun p5 hF => ?_)
                   · refine pp oMove <| pp oLenS <| pp oGeq <| pp oMove <| ?_
                     refine spl (d := 68) hF (fun hF => ?_) (fun hF => ?_)
                     · refine pt ar oMove <| ?_
                       refine bb hF fun x15 h15 hF => ?_
                       refine pt ar (oIxS h15) <| ?_
                       refine bb hF fun x16 h16 hF => ?_
                       refine pt ar (oCallZ (T_internal_strconv_lower h16)) <| pt ar oEql <| pp oPickT <| pp oAssign <| ?_
                       obtain rfl := inj hF
                       exact nlC cutR'
                     · refine no fun u15 k15 hk15 => ?_
                       refine no fun u16 k16 hk16 => ?_
                       refine no fun u17 k17 hk17 => ?_
                       refine no fun u18 k18 hk18 => ?_
                       refine pp oPickF <| pp oAssign <| ?_
                       obtain rfl := inj hF
                       exact nlC cutR'
                   · refine mk ?_
                     refine cd hF (fun hF => ?_) (fun hF => ?_)
                     · refine sr <| pp oAssign <| nl <| rg <| pp oMove <| ?_
                       refine bb hF fun x17 h17 hF => ?_
                       refine pp (oSlcS h17) <| pp oAssign <| nl <| qb <| qb <| ?_
                       exact qj (x17, 16) hF cutR'
                     · refine sr <| pp oAssign <| nl <| rg <| pp oMove <| ?_
                       refine bb hF fun x18 h18 hF => ?_
                       refine pp (oSlcS h18) <| pp oAssign <| nl <| qb <| qb <| ?_
                       exact qj (x18, 8) hF cutR'
         · refine sk <| qb <| ?_
           exact qj (a0, 10) hF cutR'
       · refine sr <| pp oIfC <| pp oAssign <| pp oAssign <| nl <| rt <| qbR <| qjR <| ?_
         obtain rfl := inj hF
         exact fin
   · rintro ⟨y1, y2⟩ hF
     replace hF : internal_strconv_ParseUint_J1 a0 a1 a2 y1 y2 = some r := hF
     unfold internal_strconv_ParseUint_J1 at hF
     refine mk ?_
     refine sjn (r := r) (fun (s : Int) => mkSt 172 [0, 1, 2, 8, 9] [(AV.val (.string y1)), (I y2), (I s), (B (a1 == 0)), (AV.val (.string a0))]) (fun s => internal_strconv_ParseUint_J2 a0 a1 y1 y2 s) ?_ ?_
     · refine sr <| pp oMove <| pp oEql <| nl <| ?_
       refine cd hF (fun hF => ?_) (fun hF => ?_)
       · refine rg <| pp oAssign <| nl <| ?_
         exact qj 64 hF cutR'
       · refine sr <| pp oMove <| pp oLss <| pp oMove <| pg ar oMove <| pg ar oGtr <| pp oPick <| nl <| ?_
         refine cd hF (fun hF => ?_) (fun hF => ?_)
         · refine sr <| pp oIfC <| pp oAssign <| pp oAssign <| nl <| rt <| qjR <| ?_
           obtain rfl := inj hF
           exact fin
         · refine sk <| ?_
           exact qj a2 hF cutR'
     · rintro y3 hF
       replace hF : internal_strconv_ParseUint_J2 a0 a1 y1 y2 y3 = some r := hF
       unfold internal_strconv_ParseUint_J2 at hF
       refine mk ?_
       refine sr <| pp oAssign <| nl <| ?_
       refine sjn (r := r) (fun (s : Int) => mkSt 172 [0, 1, 2, 8, 9, 10] [(AV.val (.string y1)), (I y2), (I y3), (B (a1 == 0)), (AV.val (.string a0)), (AV.val (.int .u64 s))]) (fun s => internal_strconv_ParseUint_J3 a0 a1 y1 y2 y3 s) ?_ ?_
       · refine sr <| pp oMove <| nl <| bl <| sr <| pp oEql <| pp oAssign <| nl <| ?_
         refine cd hF (fun hF => ?_) (fun hF => ?_)
         · refine rg <| pp oAssign <| nl <| qb <| ?_
           exact qj 1844674407370955162 hF cutR'
         · refine sr <| pp oEql <| pp oAssign <| nl <| ?_
           refine cd hF (fun hF => ?_) (fun hF => ?_)
           · refine rg <| pp oAssign <| nl <| qb <| ?_
             exact qj 1152921504606846976 hF cutR'
           · refine rg <| pp oMove <| pp oCvt <| ?_
             refine bb hF fun x7 h7 hF => ?_
             refine pp (oQuo h7) <| pp oAdd <| pp oAssign <| nl <| qb <| ?_
             exact qj (IntKind.u64.wrap (x7 + 1)) hF cutR'
       · rintro y4 hF
         replace hF : internal_strconv_ParseUint_J3 a0 a1 y1 y2 y3 y4 = some r := hF
         unfold internal_strconv_ParseUint_J3 at hF
         refine mk ?_
         refine sr <| pp oMove <| pp oCvt <| ?_
         refine bb hF fun x1 h1 hF => ?_
         refine pp (oShl h1) <| pp oSub <| pp oAssign <| nl <| sr <| pp oAssign <| nl <| sr <| pp oAssign <| nl <| sq <| sr <| pp oMove <| pp oBytes <| ?_
         refine pp oLenSl <| pp oMove <| nl <| ?_
         refine lpR (fun (s : (Bool × Int × Int)) => mkSt 172 [1, 8, 9, 10, 11, 12, 13, 99, 100, 101] [(I y2), (B (a1 == 0)), (AV.val (.string a0)), (AV.val (.int .u64 y4)), (AV.val (.int .u64 (IntKind.u64.wrap (x1 - 1)))), (B s.1), (AV.val (.int .u64 s.2.1)), (.sl (((bytesI y1)).map cInt_u8)), (I ((bytesI y1).length : Int)), (I s.2.2)]) (fun (s : (Bool × Int)) => mkSt 172 [9, 12, 13] [(AV.val (.string a0)), (B s.1), (AV.val (.int .u64 s.2))]) RR_internal_strconv_ParseUint hF cutR' ?_ ?_ ?_
         · rintro ⟨y15, y16, y17⟩ z1 hF
           replace hF : internal_strconv_ParseUint_L1 a1 y1 y2 y4 x1 y15 y16 y17 = some z1 := hF
           unfold internal_strconv_ParseUint_L1 at hF
           refine mk ?_
           refine sr <| pp oLss <| nl <| sq <| ?_
           refine cd hF (fun hF => ?_) (fun hF => ?_)
           · refine sk <| qs <| ?_
             refine sjn (r := z1) (fun (s : (Bool × Int)) => mkSt 172 [1, 8, 9, 10, 11, 12, 13, 99, 100, 101] [(I y2), (B (a1 == 0)), (AV.val (.string a0)), (AV.val (.int .u64 y4)), (AV.val (.int .u64 (IntKind.u64.wrap (x1 - 1)))), (B s.1), (AV.val (.int .u64 s.2)), (.sl (((bytesI y1)).map cInt_u8)), (I ((bytesI y1).length : Int)), (I y17)]) (fun s => internal_strconv_ParseUint_J4 y17 s.1 s.2) ?_ ?_
             · refine bl <| sr <| ?_
               refine bb hF fun x2 h2 hF => ?_
               refine pp (oIx h2) <| pp oLd <| pp oAssign <| nl <| sr <| pp oAssign <| nl <| ?_
               refine sjn (r := z1) (fun (s : Int) => mkSt 172 [1, 8, 9, 10, 11, 12, 13, 16, 99, 100, 101] [(I y2), (B (a1 == 0)), (AV.val (.string a0)), (AV.val (.int .u64 y4)), (AV.val (.int .u64 (IntKind.u64.wrap (x1 - 1)))), (B y15), (AV.val (.int .u64 y16)), (AV.val (.int .u8 s)), (.sl (((bytesI y1)).map cInt_u8)), (I ((bytesI y1).length : Int)), (I y17)]) (fun s => internal_strconv_ParseUint_J5 y2 y4 x1 y15 y16 y17 s) ?_ ?_
               · refine bl <| sr <| pp oMove <| pp oEql <| pp oMove <| pg ar oMove <| pp oPick <| pp oAssign <| nl <| ?_
                 refine cd hF (fun hF => ?_) (fun hF => ?_)
                 · refine sr <| pp oAssign <| nl <| ex <| qbM <| qjE <| qbH <| ?_
                   exact qj (true, y16) hF cutR'
                 · refine sr <| pp oMove <| pp oLeq <| pp oMove <| pg ar oMove <| pg ar oLeq <| pp oPick <| pp oAssign <| nl <| ?_
                   refine cd hF (fun hF => ?_) (fun hF => ?_)
                   · refine rg <| pp oMove <| pp oSub <| pp oAssign <| nl <| qb <| ?_
                     exact qj (IntKind.u8.wrap (x2 - 48)) hF cutR'
                   · refine srC (fun (s : Bool) => mkSt 172 [1, 8, 9, 10, 11, 12, 13, 15, 99, 100, 101, 121] [(I y2), (B (a1 == 0)), (AV.val (.string a0)), (AV.val (.int .u64 y4)), (AV.val (.int .u64 (IntKind.u64.wrap (x1 - 1)))), (B y15), (AV.val (.int .u64 y16)), (AV.val (.int .u8 x2)), (.sl (((bytesI y1)).map cInt_u8)), (I ((bytesI y1).length : Int)), (I y17), (B s)]) hF (fun z2 hF => ?_) (fun p1 hF => ?_)
                     · refine pp oMove <| ?_
                       refine bb hF fun x3 h3 hF => ?_
                       refine pp (oCallZ (T_internal_strconv_lower h3)) <| pp oLeq <| pp oMove <| ?_
                       refine spl (d := 125) hF (fun hF => ?_) (fun hF => ?_)
                       · refine pt ar oMove <| ?_
                         refine bb hF fun x4 h4 hF => ?_
                         refine pt ar (oCallZ (T_internal_strconv_lower h4)) <| pt ar oLeq <| pp oPickT <| pp oAssign <| ?_
                         obtain rfl := inj hF
                         exact nlC cutR'
                       · refine no fun u1 k1 hk1 => ?_
                         refine no fun u2 k2 hk2 => ?_
                         refine no fun u3 k3 hk3 => ?_
                         refine pp oPickF <| pp oAssign <| ?_
                         obtain rfl := inj hF
                         exact nlC cutR'
                     · refine mk ?_
                       refine cd hF (fun hF => ?_) (fun hF => ?_)
                       · refine rg <| pp oMove <| ?_
                         refine bb hF fun x5 h5 hF => ?_
                         refine pp (oCallZ (T_internal_strconv_lower h5)) <| pp oSub <| pp oAdd <| pp oAssign <| nl <| qb <| ?_
                         exact qj (IntKind.u8.wrap ((IntKind.u8.wrap (x5 - 97)) + 10)) hF cutR'
                       · refine sr <| pp oIfC <| pp oAssign <| pp oAssign <| nl <| rt <| qbR <| qjR <| qbR <| qjR <| ?_
                         exact lr hF ⟨rfl, fin⟩
               · rintro y20 hF
                 replace hF : internal_strconv_ParseUint_J5 y2 y4 x1 y15 y16 y17 y20 = some z1 := hF
                 unfold internal_strconv_ParseUint_J5 at hF
                 refine mk ?_
                 refine sq <| sr <| pp oMove <| pp oMove <| pp oCvt <| pp oGeq <| nl <| ?_
                 refine cd hF (fun hF => ?_) (fun hF => ?_)
                 · refine sr <| pp oIfC <| pp oAssign <| pp oAssign <| nl <| rt <| qsR <| qbR <| qjR <| ?_
                   exact lr hF ⟨rfl, fin⟩
                 · refine sk <| qs <| sq <| sr <| pp oMove <| pp oMove <| pp oGeq <| nl <| ?_
                   refine cd hF (fun hF => ?_) (fun hF => ?_)
                   · refine sr <| pp oMove <| pp oIfC <| pp oAssign <| pp oAssign <| nl <| rt <| qsR <| qbR <| qjR <| ?_
                     exact lr hF ⟨rfl, fin⟩
                   · refine sk <| qs <| sr <| pp oMove <| pp oMove <| pp oCvt <| pp oMul <| pp oAssign <| nl <| sr <| pp oMove <| pp oMove <| pp oCvt <| pp oAdd <| ?_
                     refine pp oAssign <| nl <| sq <| sr <| pp oMove <| pp oMove <| pp oLss <| pp oMove <| pg ar oMove <| pg ar oMove <| pg ar oGtr <| pp oPick <| nl <| ?_
                     refine cd hF (fun hF => ?_) (fun hF => ?_)
                     · refine sr <| pp oMove <| pp oIfC <| pp oAssign <| pp oAssign <| nl <| rt <| qsR <| qbR <| qjR <| ?_
                       exact lr hF ⟨rfl, fin⟩
                     · refine sk <| qs <| rg <| pp oMove <| pp oAssign <| nl <| qb <| ?_
                       exact qj (y15, (IntKind.u64.wrap ((IntKind.u64.wrap (y16 * (IntKind.u64.wrap y2))) + (IntKind.u64.wrap y20)))) hF cutR'
             · rintro ⟨y18, y19⟩ hF
               replace hF : internal_strconv_ParseUint_J4 y17 y18 y19 = some z1 := hF
               unfold internal_strconv_ParseUint_J4 at hF
               refine mk ?_
               refine rg <| pp oAdd <| pp oMove <| nl <| ?_
               exact ln hF cutR'
           · refine ex <| qsE <| ?_
             exact lxR hF cutR'
         · intro v1 hF
           refine qmk ?_
           refine qs <| sq <| ?_
           refine srC (fun (s : Bool) => mkSt 172 [13, 169] [(AV.val (.int .u64 v1.2)), (B s)]) hF (fun z3 hF => ?_) (fun p2 hF => ?_)
           · refine pp oMove <| pp oMove <| ?_
             refine spl (d := 165) hF (fun hF => ?_) (fun hF => ?_)
             · refine pt ar oMove <| ?_
               refine bb hF fun x6 h6 hF => ?_
               refine pt ar (oCallZ (T_internal_strconv_underscoreOK h6)) <| pt ar oNot <| pp oPickT <| ?_
               obtain rfl := inj hF
               exact nlC cutR'
             · refine no fun u4 k4 hk4 => ?_
               refine no fun u5 k5 hk5 => ?_
               refine no fun u6 k6 hk6 => ?_
               refine pp oPickF <| ?_
               obtain rfl := inj hF
               exact nlC cutR'
           · refine mk ?_
             refine cd hF (fun hF => ?_) (fun hF => ?_)
             · refine sr <| pp oIfC <| pp oAssign <| pp oAssign <| nl <| rt <| qsR <| ?_
               obtain rfl := inj hF
               exact fin
             · refine sk <| qs <| sr <| pp oMove <| pp oAssign <| pp oAssign <| nl <| rt <| ?_
               obtain rfl := inj hF
               exact fin
         · rintro r1 hF ⟨xe, xs⟩ ⟨hxe, hfin⟩
           obtain rfl : xe = Exit.ret := hxe
           obtain rfl := inj hF
           refine qbR <| qsR <| ?_
           exact hfin

/-! internal/strconv.ParseInt -/
noncomputable def internal_strconv_ParseInt_J3 (y4 : Int) : Option (Int × Er) :=
 some (y4, Er.nil)
noncomputable def internal_strconv_ParseInt_J2 (y2 : Bool) (x1 : (Int × Er)) (y3 : Int) : Option (Int × Er) :=
 (shlK .u64 1 (IntKind.u64.wrap (w64 (y3 - 1)))).bind fun x3 =>
 if (if (!y2) then (decide (x3 ≤ x1.1)) else false) then
 (some ((w64 (IntKind.u64.wrap (x3 - 1))), (Er.code 1)))
 else
 (if (if y2 then (decide (x3 < x1.1)) else false) then
 (some ((w64 (0 - (w64 x3))), (Er.code 1)))
 else
 (if y2 then
 (internal_strconv_ParseInt_J3 (w64 (0 - (w64 x1.1))))
 else
 (internal_strconv_ParseInt_J3 (w64 x1.1))))
noncomputable def internal_strconv_ParseInt_J1 (a1 : Int) (a2 : Int) (y1 : ByteArray) (y2 : Bool) : Option (Int × Er) :=
 (internal_strconv_ParseUint y1 a1 a2).bind fun x1 =>
 (if (!x1.2.isNil) then
 ((x1.2.isCode 1).bind fun x2 =>
 some (!x2))
 else
 (some false)).bind fun p1 =>
 if p1 then
 (some (0, x1.2))
 else
 (if (a2 == 0) then
 (internal_strconv_ParseInt_J2 y2 x1 64)
 else
 (internal_strconv_ParseInt_J2 y2 x1 a2))
noncomputable def internal_strconv_ParseInt (a0 : ByteArray) (a1 : Int) (a2 : Int) : Option (Int × Er) :=
 if (a0.toList == (ByteArray.mk #[]).toList) then
 (some (0, (Er.code 2)))
 else
 ((sidx a0 0).bind fun x4 =>
 if ((x4.toNat : Int) == 43) then
 ((sslc a0 (some 1) none).bind fun x5 =>
 internal_strconv_ParseInt_J1 a1 a2 x5 false)
 else
 (if ((x4.toNat : Int) == 45) then
 ((sslc a0 (some 1) none).bind fun x6 =>
 internal_strconv_ParseInt_J1 a1 a2 x6 true)
 else
 (internal_strconv_ParseInt_J1 a1 a2 a0 false)))
abbrev R_internal_strconv_ParseInt (r : (Int × Er)) : AV := (.tup [(I r.1), (erV 85 r.2)])
set_option maxHeartbeats 4000000 in
theorem T_internal_strconv_ParseInt {nn : Nat} {a0 : ByteArray} {a1 : Int} {a2 : Int} {r : (Int × Er)} (hF : internal_strconv_ParseInt a0 a1 a2 = some r) : den cx (nn + 4) 63 [(AV.val (.string a0)), (I a1), (I a2)] = some (R_internal_strconv_ParseInt r, []) := by
 unfold internal_strconv_ParseInt at hF
 refine fnA Tryd.func63 Tryd.ntmps63 (by exact spine) (sl := [0, 1, 2]) ?_
 refine sr <| pp oAssign <| pp oAssign <| nl <| sq <| sr <| pp oMove <| pp oEqlS <| nl <| ?_
 refine cd hF (fun hF => ?_) (fun hF => ?_)
 · refine sr <| pp oIfC <| pp oAssign <| pp oAssign <| nl <| rt <| qsR <| ?_
   obtain rfl := inj hF
   exact fin
 · refine sk <| qs <| sr <| pp oAssign <| nl <| ?_
   refine sjn (r := r) (fun (s : (ByteArray × Bool)) => mkSt 73 [0, 1, 2, 8] [(AV.val (.string s.1)), (I a1), (I a2), (B s.2)]) (fun s => internal_strconv_ParseInt_J1 a1 a2 s.1 s.2) ?_ ?_
   · refine sr <| pp oMove <| ?_
     refine bb hF fun x4 h4 hF => ?_
     refine pp (oIxS h4) <| nl <| bl <| sr <| pp oEql <| pp oAssign <| nl <| ?_
     refine cd hF (fun hF => ?_) (fun hF => ?_)
     · refine rg <| pp oMove <| ?_
       refine bb hF fun x5 h5 hF => ?_
       refine pp (oSlcS h5) <| pp oAssign <| nl <| qb <| ?_
       exact qj (x5, false) hF cutR'
     · refine sr <| pp oEql <| pp oAssign <| nl <| ?_
       refine cd hF (fun hF => ?_) (fun hF => ?_)
       · refine sr <| pp oMove <| ?_
         refine bb hF fun x6 h6 hF => ?_
         refine pp (oSlcS h6) <| pp oAssign <| nl <| rg <| pp oAssign <| nl <| qb <| ?_
         exact qj (x6, true) hF cutR'
       · refine sk <| qb <| ?_
         exact qj (a0, false) hF cutR'
   · rintro ⟨y1, y2⟩ hF
     replace hF : internal_strconv_ParseInt_J1 a1 a2 y1 y2 = some r := hF
     unfold internal_strconv_ParseInt_J1 at hF
     refine mk ?_
     refine sr <| pp oAssign <| nl <| sr <| pp oMove <| pp oMove <| pp oMove <| ?_
     refine bb hF fun x1 h1 hF => ?_
     refine pp (oCall (T_internal_strconv_ParseUint h1)) <| pp oMove <| pp oExt <| pp oExt <| pp oAssign <| pp oAssign <| nl <| sq <| ?_
     refine srC (fun (s : Bool) => mkSt 73 [2, 7, 8, 9, 38] [(I a2), (erV 85 x1.2), (B y2), (AV.val (.int .u64 x1.1)), (B s)]) hF (fun z1 hF => ?_) (fun p1 hF => ?_)
     · refine pp oMove <| pp (oErNil (t := 85) (e := x1.2)) <| pp oMove <| ?_
       refine spl (d := 34) hF (fun hF => ?_) (fun hF => ?_)
       · refine pt ar oMove <| pt ar oIfC <| ?_
         refine bb hF fun x2 h2 hF => ?_
         refine pt ar (oErCode (t := 85) (e := x1.2) h2) <| pp oPickT <| ?_
         obtain rfl := inj hF
         exact nlC cutR'
       · refine no fun u1 k1 hk1 => ?_
         refine no fun u2 k2 hk2 => ?_
         refine no fun u3 k3 hk3 => ?_
         refine pp oPickF <| ?_
         obtain rfl := inj hF
         exact nlC cutR'
     · refine mk ?_
       refine cd hF (fun hF => ?_) (fun hF => ?_)
       · refine sr <| pp oMove <| pp oAssign <| pp oAssign <| nl <| rt <| qsR <| ?_
         obtain rfl := inj hF
         exact fin
       · refine sk <| qs <| ?_
         refine sjn (r := r) (fun (s : Int) => mkSt 73 [2, 8, 9] [(I s), (B y2), (AV.val (.int .u64 x1.1))]) (fun s => internal_strconv_ParseInt_J2 y2 x1 s) ?_ ?_
         · refine sr <| pp oMove <| pp oEql <| nl <| ?_
           refine cd hF (fun hF => ?_) (fun hF => ?_)
           · refine rg <| pp oAssign <| nl <| ?_
             exact qj 64 hF cutR'
           · refine sk <| ?_
             exact qj a2 hF cutR'
         · rintro y3 hF
           replace hF : internal_strconv_ParseInt_J2 y2 x1 y3 = some r := hF
           unfold internal_strconv_ParseInt_J2 at hF
           refine mk ?_
           refine sr <| pp oMove <| pp oSub <| pp oCvt <| ?_
           refine bb hF fun x3 h3 hF => ?_
           refine pp (oShl h3) <| pp oAssign <| nl <| sq <| sr <| pp oMove <| pp oNot <| pp oMove <| pg ar oMove <| pg ar oMove <| pg ar oGeq <| pp oPick <| nl <| ?_
           refine cd hF (fun hF => ?_) (fun hF => ?_)
           · refine sr <| pp oMove <| pp oSub <| pp oCvt <| pp oIfC <| pp oAssign <| pp oAssign <| nl <| rt <| qsR <| ?_
             obtain rfl := inj hF
             exact fin
           · refine sk <| qs <| sq <| sr <| pp oMove <| pp oMove <| pg ar oMove <| pg ar oMove <| pg ar oGtr <| pp oPick <| nl <| ?_
             refine cd hF (fun hF => ?_) (fun hF => ?_)
             · refine sr <| pp oMove <| pp oCvt <| pp oNeg <| pp oIfC <| pp oAssign <| pp oAssign <| nl <| rt <| qsR <| ?_
               obtain rfl := inj hF
               exact fin
             · refine sk <| qs <| sr <| pp oMove <| pp oCvt <| pp oAssign <| nl <| ?_
               refine sjn (r := r) (fun (s : Int) => mkSt 73 [11] [(I s)]) (fun s => internal_strconv_ParseInt_J3 s) ?_ ?_
               · refine sr <| pp oMove <| nl <| ?_
                 refine cd hF (fun hF => ?_) (fun hF => ?_)
                 · refine rg <| pp oMove <| pp oNeg <| pp oAssign <| nl <| ?_
                   exact qj (w64 (0 - (w64 x1.1))) hF cutR'
                 · refine sk <| ?_
                   exact qj (w64 x1.1) hF cutR'
               · rintro y4 hF
                 replace hF : internal_strconv_ParseInt_J3 y4 = some r := hF
                 unfold internal_strconv_ParseInt_J3 at hF
                 refine mk ?_
                 refine sr <| pp oMove <| pp oAssign <| pp oAssign <| nl <| rt <| ?_
                 obtain rfl := inj hF
                 exact fin

/-! internal/stringslite.Clone: by contract -/
theorem T_ext76 {nn : Nat} {a0 : ByteArray} {r : ByteArray} (hF : cloneSt a0 = some r) : den cx (nn + 1) 76 [(AV.val (.string a0))] = some ((AV.val (.string r)), []) := cloneStA_of hF

/-! strconv.syntaxError -/

noncomputable def strconv_syntaxError (a0 : ByteArray) (a1 : ByteArray) : Option XStrconv_NumError :=
 (cloneSt a1).bind fun x1 =>
 some (XStrconv_NumError.mk a0 x1 Er.other)
abbrev R_strconv_syntaxError (r : XStrconv_NumError) : AV := (.ownp (cXStrconv_NumError r))
set_option maxHeartbeats 4000000 in
theorem T_strconv_syntaxError {nn : Nat} {a0 : ByteArray} {a1 : ByteArray} {r : XStrconv_NumError} (hF : strconv_syntaxError a0 a1 = some r) : den cx (nn + 2) 70 [(AV.val (.string a0)), (AV.val (.string a1))] = some (R_strconv_syntaxError r, []) := by
 unfold strconv_syntaxError at hF
 refine fnA Tryd.func70 Tryd.ntmps70 (by exact spine) (sl := [0, 1]) ?_
 refine sr <| pp oAssign <| nl <| srD <| pp oMove <| pp oMove <| ?_
 refine bb hF fun x1 h1 hF => ?_
 refine pp (oCall (T_ext76 h1)) <| pp oLd <| pp oBuild <| ww oBoxM <| pp oAssign <| nlD <| rt <| ?_
 obtain rfl := inj hF
 exact fin

/-! strconv.rangeError -/

noncomputable def strconv_rangeError (a0 : ByteArray) (a1 : ByteArray) : Option XStrconv_NumError :=
 (cloneSt a1).bind fun x1 =>
 some (XStrconv_NumError.mk a0 x1 Er.other)
abbrev R_strconv_rangeError (r : XStrconv_NumError) : AV := (.ownp (cXStrconv_NumError r))
set_option maxHeartbeats 4000000 in
theorem T_strconv_rangeError {nn : Nat} {a0 : ByteArray} {a1 : ByteArray} {r : XStrconv_NumError} (hF : strconv_rangeError a0 a1 = some r) : den cx (nn + 2) 71 [(AV.val (.string a0)), (AV.val (.string a1))] = some (R_strconv_rangeError r, []) := by
 unfold strconv_rangeError at hF
 refine fnA Tryd.func71 Tryd.ntmps71 (by exact spine) (sl := [0, 1]) ?_
 refine sr <| pp oAssign <| nl <| srD <| pp oMove <| pp oMove <| ?_
 refine bb hF fun x1 h1 hF => ?_
 refine pp (oCall (T_ext76 h1)) <| pp oLd <| pp oBuild <| ww oBoxM <| pp oAssign <| nlD <| rt <| ?_
 obtain rfl := inj hF
 exact fin

/-! strconv.baseError: not reached -/
def dead72 (_ : ByteArray) (_ : ByteArray) (_ : Int) : Option XStrconv_NumError := none
theorem T_dead72 {nn : Nat} {a0 : ByteArray} {a1 : ByteArray} {a2 : Int} {r : XStrconv_NumError} (hF : dead72 a0 a1 a2 = some r) : den cx (nn + 1) 72 [(AV.val (.string a0)), (AV.val (.string a1)), (I a2)] = some ((.vp (cXStrconv_NumError r)), []) := by cases hF

/-! strconv.bitSizeError: not reached -/
def dead73 (_ : ByteArray) (_ : ByteArray) (_ : Int) : Option XStrconv_NumError := none
theorem T_dead73 {nn : Nat} {a0 : ByteArray} {a1 : ByteArray} {a2 : Int} {r : XStrconv_NumError} (hF : dead73 a0 a1 a2 = some r) : den cx (nn + 1) 73 [(AV.val (.string a0)), (AV.val (.string a1)), (I a2)] = some ((.vp (cXStrconv_NumError r)), []) := by cases hF

/-! strconv.toError -/

noncomputable def strconv_toError (a0 : ByteArray) (a1 : ByteArray) (a2 : Int) (a3 : Int) (a4 : Er) : Option Er :=
 (a4.isCode 2).bind fun x1 =>
 if x1 then
 ((strconv_syntaxError a0 a1).bind fun x2 =>
 some Er.other)
 else
 ((a4.isCode 1).bind fun x3 =>
 if x3 then
 ((strconv_rangeError a0 a1).bind fun x4 =>
 some Er.other)
 else
 ((a4.isCode 3).bind fun x5 =>
 if x5 then
 ((dead72 a0 a1 a2).bind fun x6 =>
 some Er.other)
 else
 ((a4.isCode 4).bind fun x7 =>
 if x7 then
 ((dead73 a0 a1 a3).bind fun x8 =>
 some Er.other)
 else
 (some a4))))
abbrev R_strconv_toError (r : Er) : AV := (erV 85 r)
set_option maxHeartbeats 4000000 in
theorem T_strconv_toError {nn : Nat} {a0 : ByteArray} {a1 : ByteArray} {a2 : Int} {a3 : Int} {a4 : Er} {r : Er} (hF : strconv_toError a0 a1 a2 a3 a4 = some r) : den cx (nn + 3) 64 [(AV.val (.string a0)), (AV.val (.string a1)), (I a2), (I a3), (erV 85 a4)] = some (R_strconv_toError r, []) := by
 unfold strconv_toError at hF
 refine fnA Tryd.func64 Tryd.ntmps64 (by exact spine) (sl := [0, 1, 2, 3, 4]) ?_
 refine sr <| pp oAssign <| nl <| sq <| sr <| pp oMove <| nl <| bl <| sr <| pp oIfC <| ?_
 refine bb hF fun x1 h1 hF => ?_
 refine pp (oErCode (t := 85) (e := a4) h1) <| pp oAssign <| nl <| ?_
 refine cd hF (fun hF => ?_) (fun hF => ?_)
 · refine sr <| pp oMove <| pp oMove <| ?_
   refine bb hF fun x2 h2 hF => ?_
   refine pp (oCallZ (T_strconv_syntaxError h2)) <| pp oIfP <| pp oAssign <| nl <| rt <| qbR <| qsR <| ?_
   obtain rfl := inj hF
   exact fin
 · refine sr <| pp oIfC <| ?_
   refine bb hF fun x3 h3 hF => ?_
   refine pp (oErCode (t := 85) (e := a4) h3) <| pp oAssign <| nl <| ?_
   refine cd hF (fun hF => ?_) (fun hF => ?_)
   · refine sr <| pp oMove <| pp oMove <| ?_
     refine bb hF fun x4 h4 hF => ?_
     refine pp (oCallZ (T_strconv_rangeError h4)) <| pp oIfP <| pp oAssign <| nl <| rt <| qbR <| qsR <| ?_
     obtain rfl := inj hF
     exact fin
   · refine sr <| pp oIfC <| ?_
     refine bb hF fun x5 h5 hF => ?_
     refine pp (oErCode (t := 85) (e := a4) h5) <| pp oAssign <| nl <| ?_
     refine cd hF (fun hF => ?_) (fun hF => ?_)
     · refine sr <| pp oMove <| pp oMove <| pp oMove <| ?_
       refine bb hF fun x6 h6 hF => ?_
       refine pp (oCallZ (T_dead72 h6)) <| pp oIfP <| pp oAssign <| nl <| rt <| qbR <| qsR <| ?_
       obtain rfl := inj hF
       exact fin
     · refine sr <| pp oIfC <| ?_
       refine bb hF fun x7 h7 hF => ?_
       refine pp (oErCode (t := 85) (e := a4) h7) <| pp oAssign <| nl <| ?_
       refine cd hF (fun hF => ?_) (fun hF => ?_)
       · refine sr <| pp oMove <| pp oMove <| pp oMove <| ?_
         refine bb hF fun x8 h8 hF => ?_
         refine pp (oCallZ (T_dead73 h8)) <| pp oIfP <| pp oAssign <| nl <| rt <| qbR <| qsR <| ?_
         obtain rfl := inj hF
         exact fin
       · refine sk <| qb <| qs <| sr <| pp oMove <| pp oAssign <| nl <| rt <| ?_
         obtain rfl := inj hF
         exact fin

/-! strconv.ParseInt -/

noncomputable def strconv_ParseInt (a0 : ByteArray) (a1 : Int) (a2 : Int) : Option (Int × Er) :=
 (internal_strconv_ParseInt a0 a1 a2).bind fun x1 =>
 if (!x1.2.isNil) then
 ((strconv_toError (ByteArray.mk #[80, 97, 114, 115, 101, 73, 110, 116]) a0 a1 a2 x1.2).bind fun x2 =>
 some (x1.1, x2))
 else
 (some (x1.1, Er.nil))
abbrev R_strconv_ParseInt (r : (Int × Er)) : AV := (.tup [(I r.1), (erV 85 r.2)])
set_option maxHeartbeats 4000000 in
theorem T_strconv_ParseInt {nn : Nat} {a0 : ByteArray} {a1 : Int} {a2 : Int} {r : (Int × Er)} (hF : strconv_ParseInt a0 a1 a2 = some r) : den cx (nn + 5) 51 [(AV.val (.string a0)), (I a1), (I a2)] = some (R_strconv_ParseInt r, []) := by
 unfold strconv_ParseInt at hF
 refine fnA Tryd.func51 Tryd.ntmps51 (by exact spine) (sl := [0, 1, 2]) ?_
 refine sr <| pp oAssign <| pp oAssign <| nl <| sr <| pp oMove <| pp oMove <| pp oMove <| ?_
 refine bb hF fun x1 h1 hF => ?_
 refine pp (oCall (T_internal_strconv_ParseInt h1)) <| pp oMove <| pp oExt <| pp oExt <| pp oAssign <| pp oAssign <| nl <| sq <| sr <| pp oMove <| pp (oErNil (t := 85) (e := x1.2)) <| nl <| ?_
 refine cd hF (fun hF => ?_) (fun hF => ?_)
 · refine sr <| pp oMove <| pp oMove <| pp oMove <| pp oMove <| pp oMove <| ?_
   refine bb hF fun x2 h2 hF => ?_
   refine pp (oCall (T_strconv_toError h2)) <| pp oAssign <| pp oAssign <| nl <| rt <| qsR <| ?_
   obtain rfl := inj hF
   exact fin
 · refine sk <| qs <| sr <| pp oMove <| pp oAssign <| pp oAssign <| nl <| rt <| ?_
   obtain rfl := inj hF
   exact fin

/-! strings.Contains: by contract -/
theorem T_ext52 {nn : Nat} {a0 : ByteArray} {a1 : ByteArray} {r : Bool} (hF : containsS a0 a1 = some r) : den cx (nn + 1) 52 [(AV.val (.string a0)), (AV.val (.string a1))] = some ((B r), []) := containsA_of hF

/-! turnery/token.span -/
noncomputable def token_span__f34_L1 (a0 : ByteArray) (y3 : Int) : Option (Lp Int Int) :=
 (if (decide (y3 < (a0.size : Int))) then
 ((sidx a0 y3).bind fun x1 =>
 (token_digit (x1.toNat : Int)).bind fun x2 =>
 some x2)
 else
 (some false)).bind fun p1 =>
 if p1 then
 (some (.next (w64 (y3 + 1))))
 else
 (some (.out y3))
noncomputable def token_span__f34 (a0 : ByteArray) : Option Int :=
 (Loop (fun (s : Int) => token_span__f34_L1 a0 s) 0).bind fun v1 =>
 some v1
abbrev R_token_span__f34 (r : Int) : AV := (I r)
set_option maxHeartbeats 4000000 in
theorem T_token_span__f34 {nn : Nat} {a0 : ByteArray} {r : Int} (hF : token_span__f34 a0 = some r) : den cx (nn + 2) 25 [(AV.val (.string a0)), (.fn (.func 34) [] [])] = some (R_token_span__f34 r, []) := by
 unfold token_span__f34 at hF
 refine fnA Tryd.func25 Tryd.ntmps25 (by exact spine) (sl := [0, 1]) ?_
 refine sr <| pp oAssign <| nl <| sr <| pp oAssign <| nl <| sq <| ?_
 refine lp (fun (s : Int) => mkSt 20 [0, 1, 5] [(AV.val (.string a0)), (.fn (.func 34) [] []), (I s)]) (fun (s : Int) => mkSt 20 [5] [(I s)]) hF cutR' ?_ ?_
 · rintro y3 z1 hF
   replace hF : token_span__f34_L1 a0 y3 = some z1 := hF
   unfold token_span__f34_L1 at hF
   refine mk ?_
   refine sq <| ?_
   refine srC (fun (s : Bool) => mkSt 20 [0, 1, 5, 16] [(AV.val (.string a0)), (.fn (.func 34) [] []), (I y3), (B s)]) hF (fun z2 hF => ?_) (fun p1 hF => ?_)
   · refine pp oMove <| pp oMove <| pp oLenS <| pp oLss <| pp oMove <| ?_
     refine spl (d := 10) hF (fun hF => ?_) (fun hF => ?_)
     · refine pt ar oMove <| pt ar oMove <| pt ar oMove <| ?_
       refine bb hF fun x1 h1 hF => ?_
       refine pt ar (oIxS h1) <| ?_
       refine bb hF fun x2 h2 hF => ?_
       refine pt ar (oCallZ (T_token_digit h2)) <| pp oPickT <| ?_
       obtain rfl := inj hF
       exact nlC cutR'
     · refine no fun u1 k1 hk1 => ?_
       refine no fun u2 k2 hk2 => ?_
       refine no fun u3 k3 hk3 => ?_
       refine no fun u4 k4 hk4 => ?_
       refine no fun u5 k5 hk5 => ?_
       refine pp oPickF <| ?_
       obtain rfl := inj hF
       exact nlC cutR'
   · refine mk ?_
     refine cd hF (fun hF => ?_) (fun hF => ?_)
     · refine sk <| qs <| bl <| rg <| pp oMove <| pp oAdd <| pp oAssign <| nl <| qb <| ?_
       exact ln hF cutR'
     · refine ex <| qsE <| ?_
       exact lx hF cutR'
 · intro v1 hF
   refine qmk ?_
   refine qs <| sr <| pp oMove <| pp oAssign <| nl <| rt <| ?_
   obtain rfl := inj hF
   exact fin

/-! turnery/token.number$1 -/

noncomputable def token_number_1 (a0 : Int) : Option Bool :=
 (token_digit a0).bind fun x1 =>
 some (if (if x1 then true else (if (decide (97 ≤ a0)) then (decide (a0 ≤ 102)) else false)) then true else (if (decide (65 ≤ a0)) then (decide (a0 ≤ 70)) else false))
abbrev R_token_number_1 (r : Bool) : AV := (B r)
set_option maxHeartbeats 4000000 in
theorem T_token_number_1 {nn : Nat} {a0 : Int} {r : Bool} (hF : token_number_1 a0 = some r) : den cx (nn + 2) 53 [(AV.val (.int .u8 a0))] = some (R_token_number_1 r, []) := by
 unfold token_number_1 at hF
 refine fnA Tryd.func53 Tryd.ntmps53 (by exact spine) (sl := [0]) ?_
 refine sr <| pp oAssign <| nl <| sr <| pp oMove <| ?_
 refine bb hF fun x1 h1 hF => ?_
 refine pp (oCall (T_token_digit h1)) <| pp oMove <| pg ar oMove <| pg ar oGeq <| pg ar oMove <| pg ar oMove <| pg ar oLeq <| pg ar oPick <| pp oPick <| pp oMove <| pg ar oMove <| pg ar oGeq <| pg ar oMove <| pg ar oMove <| ?_
 refine pg ar oLeq <| pg ar oPick <| pp oPick <| pp oAssign <| nl <| rt <| ?_
 obtain rfl := inj hF
 exact fin

/-! turnery/token.span -/
noncomputable def token_span__f53_L1 (a0 : ByteArray) (y3 : Int) : Option (Lp Int Int) :=
 (if (decide (y3 < (a0.size : Int))) then
 ((sidx a0 y3).bind fun x1 =>
 (token_number_1 (x1.toNat : Int)).bind fun x2 =>
 some x2)
 else
 (some false)).bind fun p1 =>
 if p1 then
 (some (.next (w64 (y3 + 1))))
 else
 (some (.out y3))
noncomputable def token_span__f53 (a0 : ByteArray) : Option Int :=
 (Loop (fun (s : Int) => token_span__f53_L1 a0 s) 0).bind fun v1 =>
 some v1
abbrev R_token_span__f53 (r : Int) : AV := (I r)
set_option maxHeartbeats 4000000 in
theorem T_token_span__f53 {nn : Nat} {a0 : ByteArray} {r : Int} (hF : token_span__f53 a0 = some r) : den cx (nn + 3) 25 [(AV.val (.string a0)), (.fn (.func 53) [] [])] = some (R_token_span__f53 r, []) := by
 unfold token_span__f53 at hF
 refine fnA Tryd.func25 Tryd.ntmps25 (by exact spine) (sl := [0, 1]) ?_
 refine sr <| pp oAssign <| nl <| sr <| pp oAssign <| nl <| sq <| ?_
 refine lp (fun (s : Int) => mkSt 20 [0, 1, 5] [(AV.val (.string a0)), (.fn (.func 53) [] []), (I s)]) (fun (s : Int) => mkSt 20 [5] [(I s)]) hF cutR' ?_ ?_
 · rintro y3 z1 hF
   replace hF : token_span__f53_L1 a0 y3 = some z1 := hF
   unfold token_span__f53_L1 at hF
   refine mk ?_
   refine sq <| ?_
   refine srC (fun (s : Bool) => mkSt 20 [0, 1, 5, 16] [(AV.val (.string a0)), (.fn (.func 53) [] []), (I y3), (B s)]) hF (fun z2 hF => ?_) (fun p1 hF => ?_)
   · refine pp oMove <| pp oMove <| pp oLenS <| pp oLss <| pp oMove <| ?_
     refine spl (d := 10) hF (fun hF => ?_) (fun hF => ?_)
     · refine pt ar oMove <| pt ar oMove <| pt ar oMove <| ?_
       refine bb hF fun x1 h1 hF => ?_
       refine pt ar (oIxS h1) <| ?_
       refine bb hF fun x2 h2 hF => ?_
       refine pt ar (oCallZ (T_token_number_1 h2)) <| pp oPickT <| ?_
       obtain rfl := inj hF
       exact nlC cutR'
     · refine no fun u1 k1 hk1 => ?_
       refine no fun u2 k2 hk2 => ?_
       refine no fun u3 k3 hk3 => ?_
       refine no fun u4 k4 hk4 => ?_
       refine no fun u5 k5 hk5 => ?_
       refine pp oPickF <| ?_
       obtain rfl := inj hF
       exact nlC cutR'
   · refine mk ?_
     refine cd hF (fun hF => ?_) (fun hF => ?_)
     · refine sk <| qs <| bl <| rg <| pp oMove <| pp oAdd <| pp oAssign <| nl <| qb <| ?_
       exact ln hF cutR'
     · refine ex <| qsE <| ?_
       exact lx hF cutR'
 · intro v1 hF
   refine qmk ?_
   refine qs <| sr <| pp oMove <| pp oAssign <| nl <| rt <| ?_
   obtain rfl := inj hF
   exact fin

/-! turnery/token.number -/

noncomputable def token_number (a0 : ByteArray) : Option (Int × Int × Int) :=
 (sidx a0 0).bind fun x1 =>
 if ((x1.toNat : Int) == 39) then
 ((token_quoted a0).bind fun x2 =>
 if (!x2.2.2) then
 (some (0, 0, 1))
 else
 (some (x2.1, x2.2.1, 0)))
 else
 ((token_span__f31 a0).bind fun x3 =>
 (sslc a0 none (some x3)).bind fun x4 =>
 (strconv_ParseInt x4 0 64).bind fun x5 =>
 (if (x4.toList == (ByteArray.mk #[48]).toList) then
 (some true)
 else
 ((sidx x4 0).bind fun x6 =>
 if ((x6.toNat : Int) != 48) then
 (some true)
 else
 (if (decide (2 < (x4.size : Int))) then
 ((sidx x4 1).bind fun x7 =>
 if ((x7.toNat : Int) == 120) then
 (some true)
 else
 ((sidx x4 1).bind fun x8 =>
 some ((x8.toNat : Int) == 88)))
 else
 (some false)))).bind fun p1 =>
 ((containsS x4 (ByteArray.mk #[95])).bind fun x9 =>
 if (if x9 then true else (!p1)) then
 (some true)
 else
 ((token_span__f34 x4).bind fun x10 =>
 if (decide (x10 < x3)) then
 ((sidx x4 0).bind fun x11 =>
 some ((x11.toNat : Int) != 48))
 else
 (some false))).bind fun p2 =>
 if p2 then
 (some (0, 0, 1))
 else
 (if (x5.2.isNil) then
 (some (x5.1, x3, 0))
 else
 ((sslc x4 (some (min 2 x3)) none).bind fun x12 =>
 (token_span__f53 x12).bind fun x13 =>
 if (x13 == (w64 (x3 - (min 2 x3)))) then
 (some (0, 0, 3))
 else
 (some (0, 0, 1)))))
abbrev R_token_number (r : (Int × Int × Int)) : AV := (.tup [(I r.1), (I r.2.1), (I r.2.2)])
set_option maxHeartbeats 4000000 in
theorem T_token_number {nn : Nat} {a0 : ByteArray} {r : (Int × Int × Int)} (hF : token_number a0 = some r) : den cx (nn + 6) 35 [(AV.val (.string a0))] = some (R_token_number r, []) := by
 unfold token_number at hF
 refine fnA Tryd.func35 Tryd.ntmps35 (by exact spine) (sl := [0]) ?_
 refine sr <| pp oAssign <| pp oAssign <| pp oAssign <| nl <| sq <| sr <| pp oMove <| ?_
 refine bb hF fun x1 h1 hF => ?_
 refine pp (oIxS h1) <| pp oEql <| nl <| ?_
 refine cd hF (fun hF => ?_) (fun hF => ?_)
 · refine sr <| pp oMove <| ?_
   refine bb hF fun x2 h2 hF => ?_
   refine pp (oCall (T_token_quoted h2)) <| pp oMove <| pp oExt <| pp oExt <| pp oExt <| pp oAssign <| pp oAssign <| pp oAssign <| nl <| sq <| sr <| pp oMove <| pp oNot <| nl <| ?_
   refine cd hF (fun hF => ?_) (fun hF => ?_)
   · refine sr <| pp oAssign <| pp oAssign <| pp oAssign <| nl <| rt <| qsR <| qsR <| ?_
     obtain rfl := inj hF
     exact fin
   · refine sk <| qs <| sr <| pp oMove <| pp oMove <| pp oAssign <| pp oAssign <| pp oAssign <| nl <| rt <| qsR <| ?_
     obtain rfl := inj hF
     exact fin
 · refine sk <| qs <| sr <| pp oMove <| ?_
   refine bb hF fun x3 h3 hF => ?_
   refine pp (oCall (T_token_span__f31 h3)) <| pp oAssign <| nl <| sr <| pp oMove <| pp oMove <| ?_
   refine bb hF fun x4 h4 hF => ?_
   refine pp (oSlcS h4) <| pp oAssign <| nl <| sr <| pp oMove <| ?_
   refine bb hF fun x5 h5 hF => ?_
   refine pp (oCall (T_strconv_ParseInt h5)) <| pp oMove <| pp oExt <| pp oExt <| pp oAssign <| pp oAssign <| nl <| ?_
   refine srC (fun (s : Bool) => mkSt 92 [8, 9, 10, 11, 12] [(I x3), (AV.val (.string x4)), (I x5.1), (erV 85 x5.2), (B s)]) hF (fun z2 hF => ?_) (fun p1 hF => ?_)
   · refine pp oMove <| pp oEqlS <| pp oMove <| ?_
     refine spl (d := 38) hF (fun hF => ?_) (fun hF => ?_)
     · refine no fun u1 k1 hk1 => ?_
       refine no fun u2 k2 hk2 => ?_
       refine no fun u3 k3 hk3 => ?_
       refine pp oPickT <| pp oMove <| ?_
       refine no fun u4 k4 hk4 => ?_
       refine no fun u5 k5 hk5 => ?_
       refine no fun u6 k6 hk6 => ?_
       refine no fun u7 k7 hk7 => ?_
       refine no fun u8 k8 hk8 => ?_
       refine no fun u9 k9 hk9 => ?_
       refine no fun u10 k10 hk10 => ?_
       refine no fun u11 k11 hk11 => ?_
       refine no fun u12 k12 hk12 => ?_
       refine no fun u13 k13 hk13 => ?_
       refine no fun u14 k14 hk14 => ?_
       refine no fun u15 k15 hk15 => ?_
       refine no fun u16 k16 hk16 => ?_
       refine pp oPickT <| pp oAssign <| ?_
       obtain rfl := inj hF
       exact nlC cutR'
     · refine pt ar oMove <| ?_
       refine bb hF fun x6 h6 hF => ?_
       refine pt ar (oIxS h6) <| pt ar oNeq <| pp oPickF <| pp oMove <| ?_
       refine spl (d := 43) hF (fun hF => ?_) (fun hF => ?_)
       · refine no fun u17 k17 hk17 => ?_
         refine no fun u18 k18 hk18 => ?_
         refine no fun u19 k19 hk19 => ?_
         refine no fun u20 k20 hk20 => ?_
         refine no fun u21 k21 hk21 => ?_
         refine no fun u22 k22 hk22 => ?_
         refine no fun u23 k23 hk23 => ?_
         refine no fun u24 k24 hk24 => ?_
         refine no fun u25 k25 hk25 => ?_
         refine no fun u26 k26 hk26 => ?_
         refine no fun u27 k27 hk27 => ?_
         refine no fun u28 k28 hk28 => ?_
         refine no fun u29 k29 hk29 => ?_
         refine pp oPickT <| pp oAssign <| ?_
         obtain rfl := inj hF
         exact nlC cutR'
       · refine pt ar oMove <| pt ar oLenS <| pt ar oGtr <| pt ar oMove <| ?_
         refine splG (d := 47) hF (fun hF => ?_) (fun hF => ?_)
         · refine pt ar oMove <| ?_
           refine bb hF fun x7 h7 hF => ?_
           refine pt ar (oIxS h7) <| pt ar oEql <| pt ar oMove <| ?_
           refine splG (d := 51) hF (fun hF => ?_) (fun hF => ?_)
           · refine no fun u30 k30 hk30 => ?_
             refine no fun u31 k31 hk31 => ?_
             refine no fun u32 k32 hk32 => ?_
             refine pt ar oPickT <| pt ar oPickT <| pp oPickF <| pp oAssign <| ?_
             obtain rfl := inj hF
             exact nlC cutR'
           · refine pt ar oMove <| ?_
             refine bb hF fun x8 h8 hF => ?_
             refine pt ar (oIxS h8) <| pt ar oEql <| pt ar oPickF <| pt ar oPickT <| pp oPickF <| pp oAssign <| ?_
             obtain rfl := inj hF
             exact nlC cutR'
         · refine no fun u33 k33 hk33 => ?_
           refine no fun u34 k34 hk34 => ?_
           refine no fun u35 k35 hk35 => ?_
           refine no fun u36 k36 hk36 => ?_
           refine no fun u37 k37 hk37 => ?_
           refine no fun u38 k38 hk38 => ?_
           refine no fun u39 k39 hk39 => ?_
           refine no fun u40 k40 hk40 => ?_
           refine pt ar oPickF <| pp oPickF <| pp oAssign <| ?_
           obtain rfl := inj hF
           exact nlC cutR'
   · refine mk ?_
     refine sq <| bl <| ?_
     refine srC (fun (s : Bool) => mkSt 92 [8, 9, 10, 11, 58] [(I x3), (AV.val (.string x4)), (I x5.1), (erV 85 x5.2), (B s)]) hF (fun z1 hF => ?_) (fun p2 hF => ?_)
     · refine pp oMove <| ?_
       refine bb hF fun x9 h9 hF => ?_
       refine pp (oCallZ (T_ext52 h9)) <| pp oMove <| pg ar oMove <| pg ar oNot <| pp oPick <| pp oMove <| ?_
       refine spl (d := 65) hF (fun hF => ?_) (fun hF => ?_)
       · refine no fun u41 k41 hk41 => ?_
         refine no fun u42 k42 hk42 => ?_
         refine no fun u43 k43 hk43 => ?_
         refine no fun u44 k44 hk44 => ?_
         refine no fun u45 k45 hk45 => ?_
         refine no fun u46 k46 hk46 => ?_
         refine no fun u47 k47 hk47 => ?_
         refine no fun u48 k48 hk48 => ?_
         refine no fun u49 k49 hk49 => ?_
         refine pp oPickT <| pp oAssign <| ?_
         obtain rfl := inj hF
         exact nlC cutR'
       · refine pt ar oMove <| ?_
         refine bb hF fun x10 h10 hF => ?_
         refine pt ar (oCallZ (T_token_span__f34 h10)) <| pt ar oMove <| pt ar oLss <| pt ar oMove <| ?_
         refine splG (d := 70) hF (fun hF => ?_) (fun hF => ?_)
         · refine pt ar oMove <| ?_
           refine bb hF fun x11 h11 hF => ?_
           refine pt ar (oIxS h11) <| pt ar oNeq <| pt ar oPickT <| pp oPickF <| pp oAssign <| ?_
           obtain rfl := inj hF
           exact nlC cutR'
         · refine no fun u50 k50 hk50 => ?_
           refine no fun u51 k51 hk51 => ?_
           refine no fun u52 k52 hk52 => ?_
           refine pt ar oPickF <| pp oPickF <| pp oAssign <| ?_
           obtain rfl := inj hF
           exact nlC cutR'
     · refine mk ?_
       refine cd hF (fun hF => ?_) (fun hF => ?_)
       · refine sr <| pp oAssign <| pp oAssign <| pp oAssign <| nl <| rt <| qbR <| qsR <| ?_
         obtain rfl := inj hF
         exact fin
       · refine sr <| pp oMove <| pp (oErNil (t := 85) (e := x5.2)) <| pp oAssign <| nl <| ?_
         refine cd hF (fun hF => ?_) (fun hF => ?_)
         · refine sr <| pp oMove <| pp oMove <| pp oAssign <| pp oAssign <| pp oAssign <| nl <| rt <| qbR <| qsR <| ?_
           obtain rfl := inj hF
           exact fin
         · refine sr <| pp oMove <| pp oMove <| pp oMin <| ?_
           refine bb hF fun x12 h12 hF => ?_
           refine pp (oSlcS h12) <| ?_
           refine bb hF fun x13 h13 hF => ?_
           refine pp (oCallZ (T_token_span__f53 h13)) <| pp oMove <| pp oMove <| pp oMin <| pp oSub <| pp oEql <| pp oAssign <| nl <| ?_
           refine cd hF (fun hF => ?_) (fun hF => ?_)
           · refine sr <| pp oAssign <| pp oAssign <| pp oAssign <| nl <| rt <| qbR <| qsR <| ?_
             obtain rfl := inj hF
             exact fin
           · refine sk <| qb <| qs <| sr <| pp oAssign <| pp oAssign <| pp oAssign <| nl <| rt <| ?_
             obtain rfl := inj hF
             exact fin

/-! turnery/token.sign -/
noncomputable def token_sign_L1 (a0 : ByteArray) (y3 : Int) : Option (Lp Int (Br Unit ByteArray)) :=
 if (decide (y3 < 43)) then
 ((idx Gsigns y3).bind fun x1 =>
 (hasPrefixS a0 x1).bind fun x2 =>
 if x2 then
 (some (.out (.ret x1)))
 else
 (some (.next (w64 (y3 + 1)))))
 else
 (some (.out (.brk ())))
noncomputable def token_sign (a0 : ByteArray) : Option ByteArray :=
 (Loop (fun (s : Int) => token_sign_L1 a0 s) 0).bind (Br.go (fun _ =>
 some (ByteArray.mk #[])) (fun r1 => some r1))
abbrev R_token_sign (r : ByteArray) : AV := (AV.val (.string r))
def RR_token_sign (r : ByteArray) (x : Exit × St) : Prop := x.1 = .ret ∧ Fin cx [.tmp 2] [] (R_token_sign r) [] x
set_option maxHeartbeats 4000000 in
theorem T_token_sign {nn : Nat} {a0 : ByteArray} {r : ByteArray} (hF : token_sign a0 = some r) : den cx (nn + 2) 36 [(AV.val (.string a0))] = some (R_token_sign r, []) := by
 unfold token_sign at hF
 refine fnA Tryd.func36 Tryd.ntmps36 (by exact spine) (sl := [0]) ?_
 refine sr <| pp oAssign <| nl <| sq <| sr <| pp (oLdG (q := Gsigns) (c := gStr)) <| pp oMove <| nl <| ?_
 refine lpR (fun (s : Int) => mkSt 14 [0, 5, 6] [(AV.val (.string a0)), (.agg (Gsigns.map gStr)), (I s)]) (fun (s : Unit) => mkSt 14 [] []) RR_token_sign hF cutR' ?_ ?_ ?_
 · rintro y3 z1 hF
   replace hF : token_sign_L1 a0 y3 = some z1 := hF
   unfold token_sign_L1 at hF
   refine mk ?_
   refine sr <| pp oLss <| nl <| sq <| ?_
   refine cd hF (fun hF => ?_) (fun hF => ?_)
   · refine sk <| qs <| sq <| bl <| sr <| ?_
     refine bb hF fun x1 h1 hF => ?_
     refine pp (oIxArr (c := gStr) h1) <| pp oAssign <| nl <| sr <| pp oMove <| pp oMove <| ?_
     refine bb hF fun x2 h2 hF => ?_
     refine pp (oCallZ (T_ext27 h2)) <| nl <| ?_
     refine cd hF (fun hF => ?_) (fun hF => ?_)
     · refine sr <| pp oMove <| pp oAssign <| nl <| rt <| qbR <| qsR <| ?_
       exact lr hF ⟨rfl, fin⟩
     · refine sk <| qb <| qs <| rg <| pp oAdd <| pp oMove <| nl <| ?_
       exact ln hF cutR'
   · refine ex <| qsE <| ?_
     exact lxR hF cutR'
 · intro _ hF
   refine qmk ?_
   refine qs <| sr <| pp oAssign <| nl <| rt <| ?_
   obtain rfl := inj hF
   exact fin
 · rintro r1 hF ⟨xe, xs⟩ ⟨hxe, hfin⟩
   obtain rfl : xe = Exit.ret := hxe
   obtain rfl := inj hF
   refine qbR <| qsR <| ?_
   exact hfin

/-! turnery/token.next -/

noncomputable def token_next (a0 : ByteArray) : Option (XApi_Token × Int × Int) :=
 (sidx a0 0).bind fun x1 =>
 (token_letter (x1.toNat : Int)).bind fun x2 =>
 if x2 then
 ((token_span__f31 a0).bind fun x3 =>
 (sslc a0 none (some x3)).bind fun x4 =>
 (token_key x4).bind fun x5 =>
 if x5 then
 (some ((XApi_Token.mk 3 x4 0 0), (x4.size : Int), 0))
 else
 ((core_Name x4).bind fun x6 =>
 if (!x6) then
 (some ((XApi_Token.mk 0 (ByteArray.mk #[]) 0 0), 0, 12))
 else
 (some ((XApi_Token.mk 1 x4 0 0), (x4.size : Int), 0))))
 else
 ((token_digit (x1.toNat : Int)).bind fun x7 =>
 if (if x7 then true else ((x1.toNat : Int) == 39)) then
 ((token_number a0).bind fun x8 =>
 (sslc a0 none (some x8.2.1)).bind fun x9 =>
 some ((XApi_Token.mk 2 x9 x8.1 0), x8.2.1, x8.2.2))
 else
 ((token_sign a0).bind fun x10 =>
 if (x10.toList == (ByteArray.mk #[]).toList) then
 (some ((XApi_Token.mk 0 (ByteArray.mk #[]) 0 0), 0, 1))
 else
 (some ((XApi_Token.mk 4 x10 0 0), (x10.size : Int), 0))))
abbrev R_token_next (r : (XApi_Token × Int × Int)) : AV := (.tup [(.agg (cXApi_Token r.1)), (I r.2.1), (I r.2.2)])
set_option maxHeartbeats 4000000 in
theorem T_token_next {nn : Nat} {a0 : ByteArray} {r : (XApi_Token × Int × Int)} (hF : token_next a0 = some r) : den cx (nn + 7) 19 [(AV.val (.string a0))] = some (R_token_next r, []) := by
 unfold token_next at hF
 refine fnA Tryd.func19 Tryd.ntmps19 (by exact spine) (sl := [0]) ?_
 refine sr <| ww oAlloc <| pp oAssign <| pp oAssign <| nl <| sq <| sr <| pp oMove <| ?_
 refine bb hF fun x1 h1 hF => ?_
 refine pp (oIxS h1) <| pp oAssign <| nl <| bl <| sr <| pp oMove <| ?_
 refine bb hF fun x2 h2 hF => ?_
 refine pp (oCallZ (T_token_letter h2)) <| pp oAssign <| nl <| ?_
 refine cd hF (fun hF => ?_) (fun hF => ?_)
 · refine sr <| pp oMove <| pp oMove <| ?_
   refine bb hF fun x3 h3 hF => ?_
   refine pp (oCall (T_token_span__f31 h3)) <| ?_
   refine bb hF fun x4 h4 hF => ?_
   refine pp (oSlcS h4) <| pp oAssign <| nl <| sq <| bl <| sr <| pp oMove <| ?_
   refine bb hF fun x5 h5 hF => ?_
   refine pp (oCallZ (T_token_key h5)) <| pp oAssign <| nl <| ?_
   refine cd hF (fun hF => ?_) (fun hF => ?_)
   · refine sr <| pp oMove <| pp oBuild <| pp oMove <| pp oLenS <| ww oStR <| pp oAssign <| pp oAssign <| nl <| rt <| qbR <| qsR <| qbR <| qsR <| ?_
     obtain rfl := inj hF
     exact fin
   · refine sr <| pp oMove <| ?_
     refine bb hF fun x6 h6 hF => ?_
     refine pp (oCallZ (T_core_Name h6)) <| pp oNot <| pp oAssign <| nl <| ?_
     refine cd hF (fun hF => ?_) (fun hF => ?_)
     · refine sr <| pp oBuild <| ww oStR <| pp oAssign <| pp oAssign <| nl <| rt <| qbR <| qsR <| qbR <| qsR <| ?_
       obtain rfl := inj hF
       exact fin
     · refine sk <| qb <| qs <| sr <| pp oMove <| pp oBuild <| pp oMove <| pp oLenS <| ww oStR <| pp oAssign <| pp oAssign <| nl <| rt <| qbR <| ?_
       refine qsR <| ?_
       obtain rfl := inj hF
       exact fin
 · refine sr <| pp oMove <| ?_
   refine bb hF fun x7 h7 hF => ?_
   refine pp (oCallZ (T_token_digit h7)) <| pp oMove <| pg ar oMove <| pg ar oEql <| pp oPick <| pp oAssign <| nl <| ?_
   refine cd hF (fun hF => ?_) (fun hF => ?_)
   · refine sr <| pp oMove <| ?_
     refine bb hF fun x8 h8 hF => ?_
     refine pp (oCall (T_token_number h8)) <| pp oMove <| pp oExt <| pp oExt <| pp oExt <| pp oAssign <| pp oAssign <| pp oAssign <| nl <| sr <| pp oMove <| pp oMove <| ?_
     refine bb hF fun x9 h9 hF => ?_
     refine pp (oSlcS h9) <| pp oMove <| pp oBuild <| pp oMove <| pp oMove <| ww oStR <| pp oAssign <| pp oAssign <| nl <| rt <| qbR <| qsR <| ?_
     obtain rfl := inj hF
     exact fin
   · refine sk <| qb <| qs <| sr <| pp oMove <| ?_
     refine bb hF fun x10 h10 hF => ?_
     refine pp (oCall (T_token_sign h10)) <| pp oAssign <| nl <| sq <| sr <| pp oMove <| pp oEqlS <| nl <| ?_
     refine cd hF (fun hF => ?_) (fun hF => ?_)
     · refine sr <| pp oBuild <| ww oStR <| pp oAssign <| pp oAssign <| nl <| rt <| qsR <| ?_
       obtain rfl := inj hF
       exact fin
     · refine sk <| qs <| sr <| pp oMove <| pp oBuild <| pp oMove <| pp oLenS <| ww oStR <| pp oAssign <| pp oAssign <| nl <| rt <| ?_
       obtain rfl := inj hF
       exact fin

end Go.Ab
