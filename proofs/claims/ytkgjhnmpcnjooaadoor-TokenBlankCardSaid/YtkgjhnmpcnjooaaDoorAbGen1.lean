/-
  Functions of the program as functions on plain data (written by gen3.py).
-/
import Derived.Test.YtkgjhnmpcnjooaaDoorAbGenTy
namespace Go.Ab
open Go Go.Proofs
variable [MM]
/-! turnery/core.Fault -/

noncomputable def core_Fault (a0 : Int) (a1 : Int) : Option XApi_Fault :=
 some (XApi_Fault.mk a0 a1)
abbrev R_core_Fault (r : XApi_Fault) : AV := (.agg (cXApi_Fault r))
set_option maxHeartbeats 4000000 in
theorem T_core_Fault {nn : Nat} {a0 : Int} {a1 : Int} {r : XApi_Fault} (hF : core_Fault a0 a1 = some r) : den cx (nn + 1) 17 [(I a0), (I a1)] = some (R_core_Fault r, []) := by
 unfold core_Fault at hF
 refine fnA Tryd.func17 Tryd.ntmps17 (by exact spine) (sl := [0, 1]) ?_
 refine sr <| ww oAlloc <| nl <| sr <| pp oMove <| pp oMove <| pp oBuild <| ww oStR <| nl <| rt <| ?_
 obtain rfl := inj hF
 exact fin

/-! turnery/token.blank$1 -/

noncomputable def token_blank_1 (a0 : Int) : Option Bool :=
 some (if (if (a0 == 32) then true else (a0 == 9)) then true else (a0 == 10))
abbrev R_token_blank_1 (r : Bool) : AV := (B r)
set_option maxHeartbeats 4000000 in
theorem T_token_blank_1 {nn : Nat} {a0 : Int} {r : Bool} (hF : token_blank_1 a0 = some r) : den cx (nn + 1) 26 [(AV.val (.int .u8 a0))] = some (R_token_blank_1 r, []) := by
 unfold token_blank_1 at hF
 refine fnA Tryd.func26 Tryd.ntmps26 (by exact spine) (sl := [0]) ?_
 refine sr <| pp oAssign <| nl <| sr <| pp oMove <| pp oEql <| pp oMove <| pg ar oMove <| pg ar oEql <| pp oPick <| pp oMove <| pg ar oMove <| pg ar oEql <| pp oPick <| ?_
 refine pp oAssign <| nl <| rt <| ?_
 obtain rfl := inj hF
 exact fin

/-! turnery/token.span -/
noncomputable def token_span__f26_L1 (a0 : ByteArray) (y3 : Int) : Option (Lp Int Int) :=
 (if (decide (y3 < (a0.size : Int))) then
 ((sidx a0 y3).bind fun x1 =>
 (token_blank_1 (x1.toNat : Int)).bind fun x2 =>
 some x2)
 else
 (some false)).bind fun p1 =>
 if p1 then
 (some (.next (w64 (y3 + 1))))
 else
 (some (.out y3))
noncomputable def token_span__f26 (a0 : ByteArray) : Option Int :=
 (Loop (fun (s : Int) => token_span__f26_L1 a0 s) 0).bind fun v1 =>
 some v1
abbrev R_token_span__f26 (r : Int) : AV := (I r)
set_option maxHeartbeats 4000000 in
theorem T_token_span__f26 {nn : Nat} {a0 : ByteArray} {r : Int} (hF : token_span__f26 a0 = some r) : den cx (nn + 2) 25 [(AV.val (.string a0)), (.fn (.func 26) [] [])] = some (R_token_span__f26 r, []) := by
 unfold token_span__f26 at hF
 refine fnA Tryd.func25 Tryd.ntmps25 (by exact spine) (sl := [0, 1]) ?_
 refine sr <| pp oAssign <| nl <| sr <| pp oAssign <| nl <| sq <| ?_
 refine lp (fun (s : Int) => mkSt 20 [0, 1, 5] [(AV.val (.string a0)), (.fn (.func 26) [] []), (I s)]) (fun (s : Int) => mkSt 20 [5] [(I s)]) hF cutR' ?_ ?_
 · rintro y3 z1 hF
   replace hF : token_span__f26_L1 a0 y3 = some z1 := hF
   unfold token_span__f26_L1 at hF
   refine mk ?_
   refine sq <| ?_
   refine srC (fun (s : Bool) => mkSt 20 [0, 1, 5, 16] [(AV.val (.string a0)), (.fn (.func 26) [] []), (I y3), (B s)]) hF (fun z2 hF => ?_) (fun p1 hF => ?_)
   · refine pp oMove <| pp oMove <| pp oLenS <| pp oLss <| pp oMove <| ?_
     refine spl (d := 10) hF (fun hF => ?_) (fun hF => ?_)
     · refine pt ar oMove <| pt ar oMove <| pt ar oMove <| ?_
       refine bb hF fun x1 h1 hF => ?_
       refine pt ar (oIxS h1) <| ?_
       refine bb hF fun x2 h2 hF => ?_
       refine pt ar (oCallZ (T_token_blank_1 h2)) <| pp oPickT <| ?_
       obtain rfl := inj hF
       exact nlC cutR'
     · refine no fun u1 k1 hk1 => ?_
       refine no fun u2 k2 hk2 => ?_
       refine no fun u3 k3 hk3 => ?_
       refine no fun u4 k4 hk4 => ?_
       refine no fun u5 k5 hk5 => ?_
       refine pp oPickF <| ?_
       obtain rfl := inj hF
       exact nlC cutR'
   · refine mk ?_
     refine cd hF (fun hF => ?_) (fun hF => ?_)
     · refine sk <| qs <| bl <| rg <| pp oMove <| pp oAdd <| pp oAssign <| nl <| qb <| ?_
       exact ln hF cutR'
     · refine ex <| qsE <| ?_
       exact lx hF cutR'
 · intro v1 hF
   refine qmk ?_
   refine qs <| sr <| pp oMove <| pp oAssign <| nl <| rt <| ?_
   obtain rfl := inj hF
   exact fin

/-! strings.HasPrefix: by contract -/
theorem T_ext27 {nn : Nat} {a0 : ByteArray} {a1 : ByteArray} {r : Bool} (hF : hasPrefixS a0 a1 = some r) : den cx (nn + 1) 27 [(AV.val (.string a0)), (AV.val (.string a1))] = some ((B r), []) := hasPrefixA_of hF

/-! turnery/token.blank$2 -/

noncomputable def token_blank_2 (a0 : Int) : Option Bool :=
 some (a0 != 10)
abbrev R_token_blank_2 (r : Bool) : AV := (B r)
set_option maxHeartbeats 4000000 in
theorem T_token_blank_2 {nn : Nat} {a0 : Int} {r : Bool} (hF : token_blank_2 a0 = some r) : den cx (nn + 1) 28 [(AV.val (.int .u8 a0))] = some (R_token_blank_2 r, []) := by
 unfold token_blank_2 at hF
 refine fnA Tryd.func28 Tryd.ntmps28 (by exact spine) (sl := [0]) ?_
 refine sr <| pp oAssign <| nl <| sr <| pp oMove <| pp oNeq <| pp oAssign <| nl <| rt <| ?_
 obtain rfl := inj hF
 exact fin

/-! turnery/token.span -/
noncomputable def token_span__f28_L1 (a0 : ByteArray) (y3 : Int) : Option (Lp Int Int) :=
 (if (decide (y3 < (a0.size : Int))) then
 ((sidx a0 y3).bind fun x1 =>
 (token_blank_2 (x1.toNat : Int)).bind fun x2 =>
 some x2)
 else
 (some false)).bind fun p1 =>
 if p1 then
 (some (.next (w64 (y3 + 1))))
 else
 (some (.out y3))
noncomputable def token_span__f28 (a0 : ByteArray) : Option Int :=
 (Loop (fun (s : Int) => token_span__f28_L1 a0 s) 0).bind fun v1 =>
 some v1
abbrev R_token_span__f28 (r : Int) : AV := (I r)
set_option maxHeartbeats 4000000 in
theorem T_token_span__f28 {nn : Nat} {a0 : ByteArray} {r : Int} (hF : token_span__f28 a0 = some r) : den cx (nn + 2) 25 [(AV.val (.string a0)), (.fn (.func 28) [] [])] = some (R_token_span__f28 r, []) := by
 unfold token_span__f28 at hF
 refine fnA Tryd.func25 Tryd.ntmps25 (by exact spine) (sl := [0, 1]) ?_
 refine sr <| pp oAssign <| nl <| sr <| pp oAssign <| nl <| sq <| ?_
 refine lp (fun (s : Int) => mkSt 20 [0, 1, 5] [(AV.val (.string a0)), (.fn (.func 28) [] []), (I s)]) (fun (s : Int) => mkSt 20 [5] [(I s)]) hF cutR' ?_ ?_
 · rintro y3 z1 hF
   replace hF : token_span__f28_L1 a0 y3 = some z1 := hF
   unfold token_span__f28_L1 at hF
   refine mk ?_
   refine sq <| ?_
   refine srC (fun (s : Bool) => mkSt 20 [0, 1, 5, 16] [(AV.val (.string a0)), (.fn (.func 28) [] []), (I y3), (B s)]) hF (fun z2 hF => ?_) (fun p1 hF => ?_)
   · refine pp oMove <| pp oMove <| pp oLenS <| pp oLss <| pp oMove <| ?_
     refine spl (d := 10) hF (fun hF => ?_) (fun hF => ?_)
     · refine pt ar oMove <| pt ar oMove <| pt ar oMove <| ?_
       refine bb hF fun x1 h1 hF => ?_
       refine pt ar (oIxS h1) <| ?_
       refine bb hF fun x2 h2 hF => ?_
       refine pt ar (oCallZ (T_token_blank_2 h2)) <| pp oPickT <| ?_
       obtain rfl := inj hF
       exact nlC cutR'
     · refine no fun u1 k1 hk1 => ?_
       refine no fun u2 k2 hk2 => ?_
       refine no fun u3 k3 hk3 => ?_
       refine no fun u4 k4 hk4 => ?_
       refine no fun u5 k5 hk5 => ?_
       refine pp oPickF <| ?_
       obtain rfl := inj hF
       exact nlC cutR'
   · refine mk ?_
     refine cd hF (fun hF => ?_) (fun hF => ?_)
     · refine sk <| qs <| bl <| rg <| pp oMove <| pp oAdd <| pp oAssign <| nl <| qb <| ?_
       exact ln hF cutR'
     · refine ex <| qsE <| ?_
       exact lx hF cutR'
 · intro v1 hF
   refine qmk ?_
   refine qs <| sr <| pp oMove <| pp oAssign <| nl <| rt <| ?_
   obtain rfl := inj hF
   exact fin

/-! strings.Index: by contract -/
theorem T_ext29 {nn : Nat} {a0 : ByteArray} {a1 : ByteArray} {r : Int} (hF : indexS a0 a1 = some r) : den cx (nn + 1) 29 [(AV.val (.string a0)), (AV.val (.string a1))] = some ((I r), []) := indexA_of hF

/-! turnery/token.blank -/
noncomputable def token_blank_L1 (a0 : ByteArray) (y3 : Int) : Option (Lp Int (Br Unit (Int × Bool))) :=
 (sslc a0 (some y3) none).bind fun x1 =>
 (token_span__f26 x1).bind fun x2 =>
 (sslc a0 (some (w64 (y3 + x2))) none).bind fun x3 =>
 (hasPrefixS x3 (ByteArray.mk #[47, 47])).bind fun x4 =>
 if x4 then
 ((token_span__f28 x3).bind fun x5 =>
 some (.next (w64 ((w64 (y3 + x2)) + x5))))
 else
 ((hasPrefixS x3 (ByteArray.mk #[47, 42])).bind fun x6 =>
 if x6 then
 ((sslc x3 (some 2) none).bind fun x7 =>
 (indexS x7 (ByteArray.mk #[42, 47])).bind fun x8 =>
 if (decide (x8 < 0)) then
 (some (.out (.ret ((w64 (y3 + x2)), false))))
 else
 (some (.next (w64 ((w64 (y3 + x2)) + (w64 (x8 + 4)))))))
 else
 (some (.out (.ret ((w64 (y3 + x2)), true)))))
noncomputable def token_blank (a0 : ByteArray) : Option (Int × Bool) :=
 (Loop (fun (s : Int) => token_blank_L1 a0 s) 0).bind (Br.go (fun _ =>
 none) (fun r1 => some r1))
abbrev R_token_blank (r : (Int × Bool)) : AV := (.tup [(I r.1), (B r.2)])
def RR_token_blank (r : (Int × Bool)) (x : Exit × St) : Prop := x.1 = .ret ∧ Fin cx [.tmp 2, .tmp 3] [] (R_token_blank r) [] x
set_option maxHeartbeats 4000000 in
theorem T_token_blank {nn : Nat} {a0 : ByteArray} {r : (Int × Bool)} (hF : token_blank a0 = some r) : den cx (nn + 3) 18 [(AV.val (.string a0))] = some (R_token_blank r, []) := by
 unfold token_blank at hF
 refine fnA Tryd.func18 Tryd.ntmps18 (by exact spine) (sl := [0]) ?_
 refine sr <| pp oAssign <| pp oAssign <| nl <| sr <| pp oAssign <| nl <| ?_
 refine lpR (fun (s : Int) => mkSt 39 [0, 4] [(AV.val (.string a0)), (I s)]) (fun (s : Unit) => mkSt 39 [] []) RR_token_blank hF cutR' ?_ ?_ ?_
 · rintro y3 z1 hF
   replace hF : token_blank_L1 a0 y3 = some z1 := hF
   unfold token_blank_L1 at hF
   refine mk ?_
   refine bl <| sr <| pp oMove <| pp oMove <| ?_
   refine bb hF fun x1 h1 hF => ?_
   refine pp (oSlcS h1) <| ?_
   refine bb hF fun x2 h2 hF => ?_
   refine pp (oCallZ (T_token_span__f26 h2)) <| pp oAssign <| nl <| sr <| pp oMove <| pp oMove <| pp oAdd <| pp oAssign <| nl <| sr <| pp oMove <| pp oMove <| ?_
   refine bb hF fun x3 h3 hF => ?_
   refine pp (oSlcS h3) <| pp oAssign <| nl <| bl <| sr <| pp oMove <| ?_
   refine bb hF fun x4 h4 hF => ?_
   refine pp (oCallZ (T_ext27 h4)) <| pp oAssign <| nl <| ?_
   refine cd hF (fun hF => ?_) (fun hF => ?_)
   · refine rg <| pp oMove <| pp oMove <| ?_
     refine bb hF fun x5 h5 hF => ?_
     refine pp (oCallZ (T_token_span__f28 h5)) <| pp oAdd <| pp oAssign <| nl <| qb <| qb <| ?_
     exact ln hF cutR'
   · refine sr <| pp oMove <| ?_
     refine bb hF fun x6 h6 hF => ?_
     refine pp (oCallZ (T_ext27 h6)) <| pp oAssign <| nl <| ?_
     refine cd hF (fun hF => ?_) (fun hF => ?_)
     · refine sr <| pp oMove <| ?_
       refine bb hF fun x7 h7 hF => ?_
       refine pp (oSlcS h7) <| ?_
       refine bb hF fun x8 h8 hF => ?_
       refine pp (oCallZ (T_ext29 h8)) <| pp oAssign <| nl <| sq <| sr <| pp oMove <| pp oLss <| nl <| ?_
       refine cd hF (fun hF => ?_) (fun hF => ?_)
       · refine sr <| pp oMove <| pp oAssign <| pp oAssign <| nl <| rt <| qsR <| qbR <| qbR <| ?_
         exact lr hF ⟨rfl, fin⟩
       · refine sk <| qs <| rg <| pp oMove <| pp oMove <| pp oAdd <| pp oAdd <| pp oAssign <| nl <| qb <| qb <| ?_
         exact ln hF cutR'
     · refine sr <| pp oMove <| pp oAssign <| pp oAssign <| nl <| rt <| qbR <| qbR <| ?_
       exact lr hF ⟨rfl, fin⟩
 · intro _ hF
   cases hF
 · rintro r1 hF ⟨xe, xs⟩ ⟨hxe, hfin⟩
   obtain rfl : xe = Exit.ret := hxe
   obtain rfl := inj hF
   refine qbR <| ?_
   exact hfin

/-! turnery/token.letter -/

noncomputable def token_letter (a0 : Int) : Option Bool :=
 some (if (if (if (decide (97 ≤ a0)) then (decide (a0 ≤ 122)) else false) then true else (if (decide (65 ≤ a0)) then (decide (a0 ≤ 90)) else false)) then true else (a0 == 95))
abbrev R_token_letter (r : Bool) : AV := (B r)
set_option maxHeartbeats 4000000 in
theorem T_token_letter {nn : Nat} {a0 : Int} {r : Bool} (hF : token_letter a0 = some r) : den cx (nn + 1) 30 [(AV.val (.int .u8 a0))] = some (R_token_letter r, []) := by
 unfold token_letter at hF
 refine fnA Tryd.func30 Tryd.ntmps30 (by exact spine) (sl := [0]) ?_
 refine sr <| pp oAssign <| nl <| sr <| pp oMove <| pp oGeq <| pp oMove <| pg ar oMove <| pg ar oLeq <| pp oPick <| pp oMove <| pg ar oMove <| pg ar oGeq <| pg ar oMove <| ?_
 refine pg ar oMove <| pg ar oLeq <| pg ar oPick <| pp oPick <| pp oMove <| pg ar oMove <| pg ar oEql <| pp oPick <| pp oAssign <| nl <| rt <| ?_
 obtain rfl := inj hF
 exact fin

/-! turnery/token.digit -/

noncomputable def token_digit (a0 : Int) : Option Bool :=
 some (if (decide (48 ≤ a0)) then (decide (a0 ≤ 57)) else false)
abbrev R_token_digit (r : Bool) : AV := (B r)
set_option maxHeartbeats 4000000 in
theorem T_token_digit {nn : Nat} {a0 : Int} {r : Bool} (hF : token_digit a0 = some r) : den cx (nn + 1) 34 [(AV.val (.int .u8 a0))] = some (R_token_digit r, []) := by
 unfold token_digit at hF
 refine fnA Tryd.func34 Tryd.ntmps34 (by exact spine) (sl := [0]) ?_
 refine sr <| pp oAssign <| nl <| sr <| pp oMove <| pp oGeq <| pp oMove <| pg ar oMove <| pg ar oLeq <| pp oPick <| pp oAssign <| nl <| rt <| ?_
 obtain rfl := inj hF
 exact fin

/-! turnery/token.both -/

noncomputable def token_both (a0 : Int) : Option Bool :=
 ((token_digit a0).bind fun x1 =>
 if x1 then
 (some true)
 else
 ((token_letter a0).bind fun x2 =>
 some x2)).bind fun p1 =>
 some p1
abbrev R_token_both (r : Bool) : AV := (B r)
set_option maxHeartbeats 4000000 in
theorem T_token_both {nn : Nat} {a0 : Int} {r : Bool} (hF : token_both a0 = some r) : den cx (nn + 2) 31 [(AV.val (.int .u8 a0))] = some (R_token_both r, []) := by
 unfold token_both at hF
 refine fnA Tryd.func31 Tryd.ntmps31 (by exact spine) (sl := [0]) ?_
 refine sr <| pp oAssign <| nl <| ?_
 refine srC (fun (s : Bool) => mkSt 9 [2] [(B s)]) hF (fun z1 hF => ?_) (fun p1 hF => ?_)
 · refine pp oMove <| ?_
   refine bb hF fun x1 h1 hF => ?_
   refine pp (oCall (T_token_digit h1)) <| pp oMove <| ?_
   refine spl (d := 5) hF (fun hF => ?_) (fun hF => ?_)
   · refine no fun u1 k1 hk1 => ?_
     refine no fun u2 k2 hk2 => ?_
     refine pp oPickT <| pp oAssign <| ?_
     obtain rfl := inj hF
     exact nlC cutR'
   · refine pt ar oMove <| ?_
     refine bb hF fun x2 h2 hF => ?_
     refine pt ar (oCall (T_token_letter h2)) <| pp oPickF <| pp oAssign <| ?_
     obtain rfl := inj hF
     exact nlC cutR'
 · refine mk ?_
   refine rt <| ?_
   obtain rfl := inj hF
   exact fin

/-! turnery/token.span -/
noncomputable def token_span__f31_L1 (a0 : ByteArray) (y3 : Int) : Option (Lp Int Int) :=
 (if (decide (y3 < (a0.size : Int))) then
 ((sidx a0 y3).bind fun x1 =>
 (token_both (x1.toNat : Int)).bind fun x2 =>
 some x2)
 else
 (some false)).bind fun p1 =>
 if p1 then
 (some (.next (w64 (y3 + 1))))
 else
 (some (.out y3))
noncomputable def token_span__f31 (a0 : ByteArray) : Option Int :=
 (Loop (fun (s : Int) => token_span__f31_L1 a0 s) 0).bind fun v1 =>
 some v1
abbrev R_token_span__f31 (r : Int) : AV := (I r)
set_option maxHeartbeats 4000000 in
theorem T_token_span__f31 {nn : Nat} {a0 : ByteArray} {r : Int} (hF : token_span__f31 a0 = some r) : den cx (nn + 3) 25 [(AV.val (.string a0)), (.fn (.func 31) [] [])] = some (R_token_span__f31 r, []) := by
 unfold token_span__f31 at hF
 refine fnA Tryd.func25 Tryd.ntmps25 (by exact spine) (sl := [0, 1]) ?_
 refine sr <| pp oAssign <| nl <| sr <| pp oAssign <| nl <| sq <| ?_
 refine lp (fun (s : Int) => mkSt 20 [0, 1, 5] [(AV.val (.string a0)), (.fn (.func 31) [] []), (I s)]) (fun (s : Int) => mkSt 20 [5] [(I s)]) hF cutR' ?_ ?_
 · rintro y3 z1 hF
   replace hF : token_span__f31_L1 a0 y3 = some z1 := hF
   unfold token_span__f31_L1 at hF
   refine mk ?_
   refine sq <| ?_
   refine srC (fun (s : Bool) => mkSt 20 [0, 1, 5, 16] [(AV.val (.string a0)), (.fn (.func 31) [] []), (I y3), (B s)]) hF (fun z2 hF => ?_) (fun p1 hF => ?_)
   · refine pp oMove <| pp oMove <| pp oLenS <| pp oLss <| pp oMove <| ?_
     refine spl (d := 10) hF (fun hF => ?_) (fun hF => ?_)
     · refine pt ar oMove <| pt ar oMove <| pt ar oMove <| ?_
       refine bb hF fun x1 h1 hF => ?_
       refine pt ar (oIxS h1) <| ?_
       refine bb hF fun x2 h2 hF => ?_
       refine pt ar (oCallZ (T_token_both h2)) <| pp oPickT <| ?_
       obtain rfl := inj hF
       exact nlC cutR'
     · refine no fun u1 k1 hk1 => ?_
       refine no fun u2 k2 hk2 => ?_
       refine no fun u3 k3 hk3 => ?_
       refine no fun u4 k4 hk4 => ?_
       refine no fun u5 k5 hk5 => ?_
       refine pp oPickF <| ?_
       obtain rfl := inj hF
       exact nlC cutR'
   · refine mk ?_
     refine cd hF (fun hF => ?_) (fun hF => ?_)
     · refine sk <| qs <| bl <| rg <| pp oMove <| pp oAdd <| pp oAssign <| nl <| qb <| ?_
       exact ln hF cutR'
     · refine ex <| qsE <| ?_
       exact lx hF cutR'
 · intro v1 hF
   refine qmk ?_
   refine qs <| sr <| pp oMove <| pp oAssign <| nl <| rt <| ?_
   obtain rfl := inj hF
   exact fin

/-! turnery/token.key -/
noncomputable def token_key_L1 (a0 : ByteArray) (y3 : Int) : Option (Lp Int (Br Unit Bool)) :=
 if (decide (y3 < 13)) then
 ((idx Gkeys y3).bind fun x1 =>
 if (x1.toList == a0.toList) then
 (some (.out (.ret true)))
 else
 (some (.next (w64 (y3 + 1)))))
 else
 (some (.out (.brk ())))
noncomputable def token_key (a0 : ByteArray) : Option Bool :=
 (Loop (fun (s : Int) => token_key_L1 a0 s) 0).bind (Br.go (fun _ =>
 some false) (fun r1 => some r1))
abbrev R_token_key (r : Bool) : AV := (B r)
def RR_token_key (r : Bool) (x : Exit × St) : Prop := x.1 = .ret ∧ Fin cx [.tmp 2] [] (R_token_key r) [] x
set_option maxHeartbeats 4000000 in
theorem T_token_key {nn : Nat} {a0 : ByteArray} {r : Bool} (hF : token_key a0 = some r) : den cx (nn + 1) 32 [(AV.val (.string a0))] = some (R_token_key r, []) := by
 unfold token_key at hF
 refine fnA Tryd.func32 Tryd.ntmps32 (by exact spine) (sl := [0]) ?_
 refine sr <| pp oAssign <| nl <| sq <| sr <| pp (oLdG (q := Gkeys) (c := gStr)) <| pp oMove <| nl <| ?_
 refine lpR (fun (s : Int) => mkSt 13 [0, 5, 6] [(AV.val (.string a0)), (.agg (Gkeys.map gStr)), (I s)]) (fun (s : Unit) => mkSt 13 [] []) RR_token_key hF cutR' ?_ ?_ ?_
 · rintro y3 z1 hF
   replace hF : token_key_L1 a0 y3 = some z1 := hF
   unfold token_key_L1 at hF
   refine mk ?_
   refine sr <| pp oLss <| nl <| sq <| ?_
   refine cd hF (fun hF => ?_) (fun hF => ?_)
   · refine sk <| qs <| sq <| bl <| sr <| ?_
     refine bb hF fun x1 h1 hF => ?_
     refine pp (oIxArr (c := gStr) h1) <| pp oAssign <| nl <| sr <| pp oMove <| pp oMove <| pp oEqlS <| nl <| ?_
     refine cd hF (fun hF => ?_) (fun hF => ?_)
     · refine sr <| pp oAssign <| nl <| rt <| qbR <| qsR <| ?_
       exact lr hF ⟨rfl, fin⟩
     · refine sk <| qb <| qs <| rg <| pp oAdd <| pp oMove <| nl <| ?_
       exact ln hF cutR'
   · refine ex <| qsE <| ?_
     exact lxR hF cutR'
 · intro _ hF
   refine qmk ?_
   refine qs <| sr <| pp oAssign <| nl <| rt <| ?_
   obtain rfl := inj hF
   exact fin
 · rintro r1 hF ⟨xe, xs⟩ ⟨hxe, hfin⟩
   obtain rfl : xe = Exit.ret := hxe
   obtain rfl := inj hF
   refine qbR <| qsR <| ?_
   exact hfin

/-! turnery/core.Name -/
noncomputable def core_Name_L1 (a0 : ByteArray) (y4 : Int) : Option (Lp Int (Br Unit Bool)) :=
 if (decide (y4 < (a0.size : Int))) then
 ((sidx a0 y4).bind fun x1 =>
 if (!(if (if (if (if (decide (97 ≤ (x1.toNat : Int))) then (decide ((x1.toNat : Int) ≤ 122)) else false) then true else (if (decide (65 ≤ (x1.toNat : Int))) then (decide ((x1.toNat : Int) ≤ 90)) else false)) then true else ((x1.toNat : Int) == 95)) then true else (if (if (decide (0 < y4)) then (decide (48 ≤ (x1.toNat : Int))) else false) then (decide ((x1.toNat : Int) ≤ 57)) else false))) then
 (some (.out (.ret false)))
 else
 (some (.next (w64 (y4 + 1)))))
 else
 (some (.out (.brk ())))
noncomputable def core_Name (a0 : ByteArray) : Option Bool :=
 if (if (decide ((a0.size : Int) < 1)) then true else (decide (12 < (a0.size : Int)))) then
 (some false)
 else
 ((Loop (fun (s : Int) => core_Name_L1 a0 s) 0).bind (Br.go (fun _ =>
 some true) (fun r1 => some r1)))
abbrev R_core_Name (r : Bool) : AV := (B r)
def RR_core_Name (r : Bool) (x : Exit × St) : Prop := x.1 = .ret ∧ Fin cx [.tmp 2] [] (R_core_Name r) [] x
set_option maxHeartbeats 4000000 in
theorem T_core_Name {nn : Nat} {a0 : ByteArray} {r : Bool} (hF : core_Name a0 = some r) : den cx (nn + 1) 33 [(AV.val (.string a0))] = some (R_core_Name r, []) := by
 unfold core_Name at hF
 refine fnA Tryd.func33 Tryd.ntmps33 (by exact spine) (sl := [0]) ?_
 refine sr <| pp oAssign <| nl <| sq <| sr <| pp oMove <| pp oLenS <| pp oLss <| pp oMove <| pg ar oMove <| pg ar oLenS <| pg ar oGtr <| pp oPick <| nl <| ?_
 refine cd hF (fun hF => ?_) (fun hF => ?_)
 · refine sr <| pp oAssign <| nl <| rt <| qsR <| ?_
   obtain rfl := inj hF
   exact fin
 · refine sk <| qs <| sq <| sr <| pp oMove <| pp oLenS <| pp oMove <| nl <| ?_
   refine lpR (fun (s : Int) => mkSt 53 [0, 14, 15] [(AV.val (.string a0)), (I (a0.size : Int)), (I s)]) (fun (s : Unit) => mkSt 53 [] []) RR_core_Name hF cutR' ?_ ?_ ?_
   · rintro y4 z1 hF
     replace hF : core_Name_L1 a0 y4 = some z1 := hF
     unfold core_Name_L1 at hF
     refine mk ?_
     refine sr <| pp oLss <| nl <| sq <| ?_
     refine cd hF (fun hF => ?_) (fun hF => ?_)
     · refine sk <| qs <| sq <| bl <| sr <| pp oMove <| pp oAssign <| nl <| sr <| pp oMove <| pp oMove <| ?_
       refine bb hF fun x1 h1 hF => ?_
       refine pp (oIxS h1) <| pp oAssign <| nl <| sr <| pp oMove <| pp oGeq <| pp oMove <| pg ar oMove <| pg ar oLeq <| pp oPick <| pp oMove <| pg ar oMove <| pg ar oGeq <| pg ar oMove <| ?_
       refine pg ar oMove <| pg ar oLeq <| pg ar oPick <| pp oPick <| pp oMove <| pg ar oMove <| pg ar oEql <| pp oPick <| pp oMove <| pg ar oMove <| pg ar oGtr <| pg ar oMove <| pg ar oMove <| pg ar oGeq <| ?_
       refine pg ar oPick <| pg ar oMove <| pg ar oMove <| pg ar oLeq <| pg ar oPick <| pp oPick <| pp oNot <| nl <| ?_
       refine cd hF (fun hF => ?_) (fun hF => ?_)
       · refine sr <| pp oAssign <| nl <| rt <| qbR <| qsR <| ?_
         exact lr hF ⟨rfl, fin⟩
       · refine sk <| qb <| qs <| rg <| pp oAdd <| pp oMove <| nl <| ?_
         exact ln hF cutR'
     · refine ex <| qsE <| ?_
       exact lxR hF cutR'
   · intro _ hF
     refine qmk ?_
     refine qs <| sr <| pp oAssign <| nl <| rt <| ?_
     obtain rfl := inj hF
     exact fin
   · rintro r1 hF ⟨xe, xs⟩ ⟨hxe, hfin⟩
     obtain rfl : xe = Exit.ret := hxe
     obtain rfl := inj hF
     refine qbR <| qsR <| ?_
     exact hfin

/-! strings.IndexByte: by contract -/
theorem T_ext62 {nn : Nat} {a0 : ByteArray} {a1 : Int} {r : Int} (hF : indexByteS a0 a1 = some r) : den cx (nn + 1) 62 [(AV.val (.string a0)), (AV.val (.int .u8 a1))] = some ((I r), []) := indexByteA_of hF

/-! turnery/token.quoted -/
noncomputable def token_quoted_J1  : Option (Int × Int × Bool) :=
 some (0, 0, false)
noncomputable def token_quoted (a0 : ByteArray) : Option (Int × Int × Bool) :=
 (if (decide (3 < (a0.size : Int))) then
 ((sidx a0 1).bind fun x1 =>
 if ((x1.toNat : Int) == 92) then
 ((sidx a0 3).bind fun x2 =>
 some ((x2.toNat : Int) == 39))
 else
 (some false))
 else
 (some false)).bind fun p1 =>
 if p1 then
 ((sidx a0 2).bind fun x3 =>
 (indexByteS (ByteArray.mk #[110, 48, 92, 39]) (x3.toNat : Int)).bind fun x4 =>
 if (decide (0 ≤ x4)) then
 ((sidx (ByteArray.mk #[10, 0, 92, 39]) x4).bind fun x5 =>
 some ((w64 (x5.toNat : Int)), 4, true))
 else
 (token_quoted_J1))
 else
 ((if (decide (2 < (a0.size : Int))) then
 ((sidx a0 2).bind fun x6 =>
 if ((x6.toNat : Int) == 39) then
 ((sidx a0 1).bind fun x7 =>
 if (decide (32 ≤ (x7.toNat : Int))) then
 ((sidx a0 1).bind fun x8 =>
 if (decide ((x8.toNat : Int) < 127)) then
 ((sidx a0 1).bind fun x9 =>
 if ((x9.toNat : Int) != 92) then
 ((sidx a0 1).bind fun x10 =>
 some ((x10.toNat : Int) != 39))
 else
 (some false))
 else
 (some false))
 else
 (some false))
 else
 (some false))
 else
 (some false)).bind fun p2 =>
 if p2 then
 ((sidx a0 1).bind fun x11 =>
 some ((w64 (x11.toNat : Int)), 3, true))
 else
 (token_quoted_J1))
abbrev R_token_quoted (r : (Int × Int × Bool)) : AV := (.tup [(I r.1), (I r.2.1), (B r.2.2)])
set_option maxHeartbeats 4000000 in
theorem T_token_quoted {nn : Nat} {a0 : ByteArray} {r : (Int × Int × Bool)} (hF : token_quoted a0 = some r) : den cx (nn + 2) 50 [(AV.val (.string a0))] = some (R_token_quoted r, []) := by
 unfold token_quoted at hF
 refine fnA Tryd.func50 Tryd.ntmps50 (by exact spine) (sl := [0]) ?_
 refine sr <| pp oAssign <| pp oAssign <| pp oAssign <| nl <| ?_
 refine sjn (r := r) (fun (s : Unit) => mkSt 60 [] []) (fun _ => token_quoted_J1) ?_ ?_
 · refine bl <| ?_
   refine srC (fun (s : Bool) => mkSt 60 [0, 6] [(AV.val (.string a0)), (B s)]) hF (fun z2 hF => ?_) (fun p1 hF => ?_)
   · refine pp oMove <| pp oLenS <| pp oGtr <| pp oMove <| ?_
     refine spl (d := 10) hF (fun hF => ?_) (fun hF => ?_)
     · refine pt ar oMove <| ?_
       refine bb hF fun x1 h1 hF => ?_
       refine pt ar (oIxS h1) <| pt ar oEql <| pp oPickT <| pp oMove <| ?_
       refine spl (d := 15) hF (fun hF => ?_) (fun hF => ?_)
       · refine pt ar oMove <| ?_
         refine bb hF fun x2 h2 hF => ?_
         refine pt ar (oIxS h2) <| pt ar oEql <| pp oPickT <| pp oAssign <| ?_
         obtain rfl := inj hF
         exact nlC cutR'
       · refine no fun u1 k1 hk1 => ?_
         refine no fun u2 k2 hk2 => ?_
         refine no fun u3 k3 hk3 => ?_
         refine pp oPickF <| pp oAssign <| ?_
         obtain rfl := inj hF
         exact nlC cutR'
     · refine no fun u4 k4 hk4 => ?_
       refine no fun u5 k5 hk5 => ?_
       refine no fun u6 k6 hk6 => ?_
       refine pp oPickF <| pp oMove <| ?_
       refine no fun u7 k7 hk7 => ?_
       refine no fun u8 k8 hk8 => ?_
       refine no fun u9 k9 hk9 => ?_
       refine pp oPickF <| pp oAssign <| ?_
       obtain rfl := inj hF
       exact nlC cutR'
   · refine mk ?_
     refine cd hF (fun hF => ?_) (fun hF => ?_)
     · refine sr <| pp oMove <| ?_
       refine bb hF fun x3 h3 hF => ?_
       refine pp (oIxS h3) <| ?_
       refine bb hF fun x4 h4 hF => ?_
       refine pp (oCallZ (T_ext62 h4)) <| pp oAssign <| nl <| sr <| pp oMove <| pp oGeq <| nl <| ?_
       refine cd hF (fun hF => ?_) (fun hF => ?_)
       · refine sr <| pp oMove <| ?_
         refine bb hF fun x5 h5 hF => ?_
         refine pp (oIxS h5) <| pp oCvt <| pp oAssign <| pp oAssign <| pp oAssign <| nl <| rt <| qbR <| qjR <| ?_
         obtain rfl := inj hF
         exact fin
       · refine sk <| qb <| ?_
         exact qj () hF cutR'
     · refine srC (fun (s : Bool) => mkSt 60 [0, 28] [(AV.val (.string a0)), (B s)]) hF (fun z1 hF => ?_) (fun p2 hF => ?_)
       · refine pp oMove <| pp oLenS <| pp oGtr <| pp oMove <| ?_
         refine spl (d := 32) hF (fun hF => ?_) (fun hF => ?_)
         · refine pt ar oMove <| ?_
           refine bb hF fun x6 h6 hF => ?_
           refine pt ar (oIxS h6) <| pt ar oEql <| pp oPickT <| pp oMove <| ?_
           refine spl (d := 37) hF (fun hF => ?_) (fun hF => ?_)
           · refine pt ar oMove <| ?_
             refine bb hF fun x7 h7 hF => ?_
             refine pt ar (oIxS h7) <| pt ar oGeq <| pp oPickT <| pp oMove <| ?_
             refine spl (d := 42) hF (fun hF => ?_) (fun hF => ?_)
             · refine pt ar oMove <| ?_
               refine bb hF fun x8 h8 hF => ?_
               refine pt ar (oIxS h8) <| pt ar oLss <| pp oPickT <| pp oMove <| ?_
               refine spl (d := 47) hF (fun hF => ?_) (fun hF => ?_)
               · refine pt ar oMove <| ?_
                 refine bb hF fun x9 h9 hF => ?_
                 refine pt ar (oIxS h9) <| pt ar oNeq <| pp oPickT <| pp oMove <| ?_
                 refine spl (d := 52) hF (fun hF => ?_) (fun hF => ?_)
                 · refine pt ar oMove <| ?_
                   refine bb hF fun x10 h10 hF => ?_
                   refine pt ar (oIxS h10) <| pt ar oNeq <| pp oPickT <| pp oAssign <| ?_
                   obtain rfl := inj hF
                   exact nlC cutR'
                 · refine no fun u10 k10 hk10 => ?_
                   refine no fun u11 k11 hk11 => ?_
                   refine no fun u12 k12 hk12 => ?_
                   refine pp oPickF <| pp oAssign <| ?_
                   obtain rfl := inj hF
                   exact nlC cutR'
               · refine no fun u13 k13 hk13 => ?_
                 refine no fun u14 k14 hk14 => ?_
                 refine no fun u15 k15 hk15 => ?_
                 refine pp oPickF <| pp oMove <| ?_
                 refine no fun u16 k16 hk16 => ?_
                 refine no fun u17 k17 hk17 => ?_
                 refine no fun u18 k18 hk18 => ?_
                 refine pp oPickF <| pp oAssign <| ?_
                 obtain rfl := inj hF
                 exact nlC cutR'
             · refine no fun u19 k19 hk19 => ?_
               refine no fun u20 k20 hk20 => ?_
               refine no fun u21 k21 hk21 => ?_
               refine pp oPickF <| pp oMove <| ?_
               refine no fun u22 k22 hk22 => ?_
               refine no fun u23 k23 hk23 => ?_
               refine no fun u24 k24 hk24 => ?_
               refine pp oPickF <| pp oMove <| ?_
               refine no fun u25 k25 hk25 => ?_
               refine no fun u26 k26 hk26 => ?_
               refine no fun u27 k27 hk27 => ?_
               refine pp oPickF <| pp oAssign <| ?_
               obtain rfl := inj hF
               exact nlC cutR'
           · refine no fun u28 k28 hk28 => ?_
             refine no fun u29 k29 hk29 => ?_
             refine no fun u30 k30 hk30 => ?_
             refine pp oPickF <| pp oMove <| ?_
             refine no fun u31 k31 hk31 => ?_
             refine no fun u32 k32 hk32 => ?_
             refine no fun u33 k33 hk33 => ?_
             refine pp oPickF <| pp oMove <| ?_
             refine no fun u34 k34 hk34 => ?_
             refine no fun u35 k35 hk35 => ?_
             refine no fun u36 k36 hk36 => ?_
             refine pp oPickF <| pp oMove <| ?_
             refine no fun u37 k37 hk37 => ?_
             refine no fun u38 k38 hk38 => ?_
             refine no fun u39 k39 hk39 => ?_
             refine pp oPickF <| pp oAssign <| ?_
             obtain rfl := inj hF
             exact nlC cutR'
         · refine no fun u40 k40 hk40 => ?_
           refine no fun u41 k41 hk41 => ?_
           refine no fun u42 k42 hk42 => ?_
           refine pp oPickF <| pp oMove <| ?_
           refine no fun u43 k43 hk43 => ?_
           refine no fun u44 k44 hk44 => ?_
           refine no fun u45 k45 hk45 => ?_
           refine pp oPickF <| pp oMove <| ?_
           refine no fun u46 k46 hk46 => ?_
           refine no fun u47 k47 hk47 => ?_
           refine no fun u48 k48 hk48 => ?_
           refine pp oPickF <| pp oMove <| ?_
           refine no fun u49 k49 hk49 => ?_
           refine no fun u50 k50 hk50 => ?_
           refine no fun u51 k51 hk51 => ?_
           refine pp oPickF <| pp oMove <| ?_
           refine no fun u52 k52 hk52 => ?_
           refine no fun u53 k53 hk53 => ?_
           refine no fun u54 k54 hk54 => ?_
           refine pp oPickF <| pp oAssign <| ?_
           obtain rfl := inj hF
           exact nlC cutR'
       · refine mk ?_
         refine cd hF (fun hF => ?_) (fun hF => ?_)
         · refine sr <| pp oMove <| ?_
           refine bb hF fun x11 h11 hF => ?_
           refine pp (oIxS h11) <| pp oCvt <| pp oAssign <| pp oAssign <| pp oAssign <| nl <| rt <| qbR <| qjR <| ?_
           obtain rfl := inj hF
           exact fin
         · refine sk <| qb <| ?_
           exact qj () hF cutR'
 · rintro _ hF
   replace hF : token_quoted_J1 = some r := hF
   unfold token_quoted_J1 at hF
   refine mk ?_
   refine sr <| pp oAssign <| pp oAssign <| pp oAssign <| nl <| rt <| ?_
   obtain rfl := inj hF
   exact fin

/-! internal/strconv.lower -/

noncomputable def internal_strconv_lower (a0 : Int) : Option Int :=
 some (orK .u8 a0 32)
abbrev R_internal_strconv_lower (r : Int) : AV := (AV.val (.int .u8 r))
set_option maxHeartbeats 4000000 in
theorem T_internal_strconv_lower {nn : Nat} {a0 : Int} {r : Int} (hF : internal_strconv_lower a0 = some r) : den cx (nn + 1) 74 [(AV.val (.int .u8 a0))] = some (R_internal_strconv_lower r, []) := by
 unfold internal_strconv_lower at hF
 refine fnA Tryd.func74 Tryd.ntmps74 (by exact spine) (sl := [0]) ?_
 refine sr <| pp oAssign <| nl <| sr <| pp oMove <| pp oOr <| pp oAssign <| nl <| rt <| ?_
 obtain rfl := inj hF
 exact fin

/-! internal/strconv.underscoreOK -/
noncomputable def internal_strconv_underscoreOK_J3 (y10 : Int) (y11 : Int) : Option (Lp (Int × Int) (Br Int Bool)) :=
 some (.next (y11, (w64 (y10 + 1))))
noncomputable def internal_strconv_underscoreOK_L1 (y1 : ByteArray) (y4 : Bool) (y9 : Int) (y10 : Int) : Option (Lp (Int × Int) (Br Int Bool)) :=
 if (decide (y10 < (y1.size : Int))) then
 (((sidx y1 y10).bind fun x1 =>
 if (decide (48 ≤ (x1.toNat : Int))) then
 ((sidx y1 y10).bind fun x2 =>
 if (decide ((x2.toNat : Int) ≤ 57)) then
 (some true)
 else
 (if y4 then
 ((sidx y1 y10).bind fun x3 =>
 (internal_strconv_lower (x3.toNat : Int)).bind fun x4 =>
 if (decide (97 ≤ x4)) then
 ((sidx y1 y10).bind fun x5 =>
 (internal_strconv_lower (x5.toNat : Int)).bind fun x6 =>
 some (decide (x6 ≤ 102)))
 else
 (some false))
 else
 (some false)))
 else
 (if y4 then
 ((sidx y1 y10).bind fun x7 =>
 (internal_strconv_lower (x7.toNat : Int)).bind fun x8 =>
 if (decide (97 ≤ x8)) then
 ((sidx y1 y10).bind fun x9 =>
 (internal_strconv_lower (x9.toNat : Int)).bind fun x10 =>
 some (decide (x10 ≤ 102)))
 else
 (some false))
 else
 (some false))).bind fun p1 =>
 if p1 then
 (internal_strconv_underscoreOK_J3 y10 48)
 else
 ((sidx y1 y10).bind fun x11 =>
 if ((x11.toNat : Int) == 95) then
 (if (y9 != 48) then
 (some (.out (.ret false)))
 else
 (internal_strconv_underscoreOK_J3 y10 95))
 else
 (if (y9 == 95) then
 (some (.out (.ret false)))
 else
 (internal_strconv_underscoreOK_J3 y10 33))))
 else
 (some (.out (.brk y9)))
noncomputable def internal_strconv_underscoreOK_J2 (y1 : ByteArray) (y2 : Int) (y3 : Int) (y4 : Bool) : Option Bool :=
 (Loop (fun (s : (Int × Int)) => internal_strconv_underscoreOK_L1 y1 y4 s.1 s.2) (y2, y3)).bind (Br.go (fun v1 =>
 some (v1 != 95)) (fun r1 => some r1))
noncomputable def internal_strconv_underscoreOK_J1 (y1 : ByteArray) : Option Bool :=
 (if (decide (2 ≤ (y1.size : Int))) then
 ((sidx y1 0).bind fun x12 =>
 if ((x12.toNat : Int) == 48) then
 ((sidx y1 1).bind fun x13 =>
 (internal_strconv_lower (x13.toNat : Int)).bind fun x14 =>
 if (x14 == 98) then
 (some true)
 else
 ((sidx y1 1).bind fun x15 =>
 (internal_strconv_lower (x15.toNat : Int)).bind fun x16 =>
 if (x16 == 111) then
 (some true)
 else
 ((sidx y1 1).bind fun x17 =>
 (internal_strconv_lower (x17.toNat : Int)).bind fun x18 =>
 some (x18 == 120))))
 else
 (some false))
 else
 (some false)).bind fun p2 =>
 if p2 then
 ((sidx y1 1).bind fun x19 =>
 (internal_strconv_lower (x19.toNat : Int)).bind fun x20 =>
 internal_strconv_underscoreOK_J2 y1 48 2 (x20 == 120))
 else
 (internal_strconv_underscoreOK_J2 y1 94 0 false)
noncomputable def internal_strconv_underscoreOK (a0 : ByteArray) : Option Bool :=
 (if (decide (1 ≤ (a0.size : Int))) then
 ((sidx a0 0).bind fun x21 =>
 if ((x21.toNat : Int) == 45) then
 (some true)
 else
 ((sidx a0 0).bind fun x22 =>
 some ((x22.toNat : Int) == 43)))
 else
 (some false)).bind fun p3 =>
 if p3 then
 ((sslc a0 (some 1) none).bind fun x23 =>
 internal_strconv_underscoreOK_J1 x23)
 else
 (internal_strconv_underscoreOK_J1 a0)
abbrev R_internal_strconv_underscoreOK (r : Bool) : AV := (B r)
def RR_internal_strconv_underscoreOK (r : Bool) (x : Exit × St) : Prop := x.1 = .ret ∧ Fin cx [.tmp 2] [] (R_internal_strconv_underscoreOK r) [] x
set_option maxHeartbeats 4000000 in
theorem T_internal_strconv_underscoreOK {nn : Nat} {a0 : ByteArray} {r : Bool} (hF : internal_strconv_underscoreOK a0 = some r) : den cx (nn + 2) 75 [(AV.val (.string a0))] = some (R_internal_strconv_underscoreOK r, []) := by
 unfold internal_strconv_underscoreOK at hF
 refine fnA Tryd.func75 Tryd.ntmps75 (by exact spine) (sl := [0]) ?_
 refine sr <| pp oAssign <| nl <| sr <| pp oAssign <| nl <| sr <| pp oAssign <| nl <| ?_
 refine sjn (r := r) (fun (s : ByteArray) => mkSt 94 [0, 3, 4] [(AV.val (.string s)), (AV.val (.int .i32 94)), (I 0)]) (fun s => internal_strconv_underscoreOK_J1 s) ?_ ?_
 · refine srC (fun (s : Bool) => mkSt 94 [0, 3, 4, 18] [(AV.val (.string a0)), (AV.val (.int .i32 94)), (I 0), (B s)]) hF (fun z4 hF => ?_) (fun p3 hF => ?_)
   · refine pp oMove <| pp oLenS <| pp oGeq <| pp oMove <| ?_
     refine spl (d := 9) hF (fun hF => ?_) (fun hF => ?_)
     · refine pt ar oMove <| ?_
       refine bb hF fun x21 h21 hF => ?_
       refine pt ar (oIxS h21) <| pt ar oEql <| pt ar oMove <| ?_
       refine splG (d := 13) hF (fun hF => ?_) (fun hF => ?_)
       · refine no fun u97 k97 hk97 => ?_
         refine no fun u98 k98 hk98 => ?_
         refine no fun u99 k99 hk99 => ?_
         refine pt ar oPickT <| pp oPickT <| ?_
         obtain rfl := inj hF
         exact nlC cutR'
       · refine pt ar oMove <| ?_
         refine bb hF fun x22 h22 hF => ?_
         refine pt ar (oIxS h22) <| pt ar oEql <| pt ar oPickF <| pp oPickT <| ?_
         obtain rfl := inj hF
         exact nlC cutR'
     · refine no fun u100 k100 hk100 => ?_
       refine no fun u101 k101 hk101 => ?_
       refine no fun u102 k102 hk102 => ?_
       refine no fun u103 k103 hk103 => ?_
       refine no fun u104 k104 hk104 => ?_
       refine no fun u105 k105 hk105 => ?_
       refine no fun u106 k106 hk106 => ?_
       refine no fun u107 k107 hk107 => ?_
       refine pp oPickF <| ?_
       obtain rfl := inj hF
       exact nlC cutR'
   · refine mk ?_
     refine cd hF (fun hF => ?_) (fun hF => ?_)
     · refine rg <| pp oMove <| ?_
       refine bb hF fun x23 h23 hF => ?_
       refine pp (oSlcS h23) <| pp oAssign <| nl <| ?_
       exact qj x23 hF cutR'
     · refine sk <| ?_
       exact qj a0 hF cutR'
 · rintro y1 hF
   replace hF : internal_strconv_underscoreOK_J1 y1 = some r := hF
   unfold internal_strconv_underscoreOK_J1 at hF
   refine mk ?_
   refine sr <| pp oAssign <| nl <| ?_
   refine sjn (r := r) (fun (s : (Int × Int × Bool)) => mkSt 94 [0, 3, 4, 5] [(AV.val (.string y1)), (AV.val (.int .i32 s.1)), (I s.2.1), (B s.2.2)]) (fun s => internal_strconv_underscoreOK_J2 y1 s.1 s.2.1 s.2.2) ?_ ?_
   · refine srC (fun (s : Bool) => mkSt 94 [0, 3, 4, 5, 46] [(AV.val (.string y1)), (AV.val (.int .i32 94)), (I 0), (B false), (B s)]) hF (fun z3 hF => ?_) (fun p2 hF => ?_)
     · refine pp oMove <| pp oLenS <| pp oGeq <| pp oMove <| ?_
       refine spl (d := 24) hF (fun hF => ?_) (fun hF => ?_)
       · refine pt ar oMove <| ?_
         refine bb hF fun x12 h12 hF => ?_
         refine pt ar (oIxS h12) <| pt ar oEql <| pp oPickT <| pp oMove <| ?_
         refine spl (d := 29) hF (fun hF => ?_) (fun hF => ?_)
         · refine pt ar oMove <| ?_
           refine bb hF fun x13 h13 hF => ?_
           refine pt ar (oIxS h13) <| ?_
           refine bb hF fun x14 h14 hF => ?_
           refine pt ar (oCallZ (T_internal_strconv_lower h14)) <| pt ar oEql <| pt ar oMove <| ?_
           refine splG (d := 34) hF (fun hF => ?_) (fun hF => ?_)
           · refine no fun u50 k50 hk50 => ?_
             refine no fun u51 k51 hk51 => ?_
             refine no fun u52 k52 hk52 => ?_
             refine no fun u53 k53 hk53 => ?_
             refine pt ar oPickT <| pt ar oMove <| ?_
             refine no fun u54 k54 hk54 => ?_
             refine no fun u55 k55 hk55 => ?_
             refine no fun u56 k56 hk56 => ?_
             refine no fun u57 k57 hk57 => ?_
             refine pt ar oPickT <| pp oPickT <| ?_
             obtain rfl := inj hF
             exact nlC cutR'
           · refine pt ar oMove <| ?_
             refine bb hF fun x15 h15 hF => ?_
             refine pt ar (oIxS h15) <| ?_
             refine bb hF fun x16 h16 hF => ?_
             refine pt ar (oCallZ (T_internal_strconv_lower h16)) <| pt ar oEql <| pt ar oPickF <| pt ar oMove <| ?_
             refine splG (d := 40) hF (fun hF => ?_) (fun hF => ?_)
             · refine no fun u58 k58 hk58 => ?_
               refine no fun u59 k59 hk59 => ?_
               refine no fun u60 k60 hk60 => ?_
               refine no fun u61 k61 hk61 => ?_
               refine pt ar oPickT <| pp oPickT <| ?_
               obtain rfl := inj hF
               exact nlC cutR'
             · refine pt ar oMove <| ?_
               refine bb hF fun x17 h17 hF => ?_
               refine pt ar (oIxS h17) <| ?_
               refine bb hF fun x18 h18 hF => ?_
               refine pt ar (oCallZ (T_internal_strconv_lower h18)) <| pt ar oEql <| pt ar oPickF <| pp oPickT <| ?_
               obtain rfl := inj hF
               exact nlC cutR'
         · refine no fun u62 k62 hk62 => ?_
           refine no fun u63 k63 hk63 => ?_
           refine no fun u64 k64 hk64 => ?_
           refine no fun u65 k65 hk65 => ?_
           refine no fun u66 k66 hk66 => ?_
           refine no fun u67 k67 hk67 => ?_
           refine no fun u68 k68 hk68 => ?_
           refine no fun u69 k69 hk69 => ?_
           refine no fun u70 k70 hk70 => ?_
           refine no fun u71 k71 hk71 => ?_
           refine no fun u72 k72 hk72 => ?_
           refine no fun u73 k73 hk73 => ?_
           refine no fun u74 k74 hk74 => ?_
           refine no fun u75 k75 hk75 => ?_
           refine no fun u76 k76 hk76 => ?_
           refine no fun u77 k77 hk77 => ?_
           refine pp oPickF <| ?_
           obtain rfl := inj hF
           exact nlC cutR'
       · refine no fun u78 k78 hk78 => ?_
         refine no fun u79 k79 hk79 => ?_
         refine no fun u80 k80 hk80 => ?_
         refine pp oPickF <| pp oMove <| ?_
         refine no fun u81 k81 hk81 => ?_
         refine no fun u82 k82 hk82 => ?_
         refine no fun u83 k83 hk83 => ?_
         refine no fun u84 k84 hk84 => ?_
         refine no fun u85 k85 hk85 => ?_
         refine no fun u86 k86 hk86 => ?_
         refine no fun u87 k87 hk87 => ?_
         refine no fun u88 k88 hk88 => ?_
         refine no fun u89 k89 hk89 => ?_
         refine no fun u90 k90 hk90 => ?_
         refine no fun u91 k91 hk91 => ?_
         refine no fun u92 k92 hk92 => ?_
         refine no fun u93 k93 hk93 => ?_
         refine no fun u94 k94 hk94 => ?_
         refine no fun u95 k95 hk95 => ?_
         refine no fun u96 k96 hk96 => ?_
         refine pp oPickF <| ?_
         obtain rfl := inj hF
         exact nlC cutR'
     · refine mk ?_
       refine cd hF (fun hF => ?_) (fun hF => ?_)
       · refine sr <| pp oAssign <| nl <| sr <| pp oAssign <| nl <| rg <| pp oMove <| ?_
         refine bb hF fun x19 h19 hF => ?_
         refine pp (oIxS h19) <| ?_
         refine bb hF fun x20 h20 hF => ?_
         refine pp (oCallZ (T_internal_strconv_lower h20)) <| pp oEql <| pp oAssign <| nl <| ?_
         exact qj (48, 2, (x20 == 120)) hF cutR'
       · refine sk <| ?_
         exact qj (94, 0, false) hF cutR'
   · rintro ⟨y2, y3, y4⟩ hF
     replace hF : internal_strconv_underscoreOK_J2 y1 y2 y3 y4 = some r := hF
     unfold internal_strconv_underscoreOK_J2 at hF
     refine mk ?_
     refine sq <| ?_
     refine lpR (fun (s : (Int × Int)) => mkSt 94 [0, 3, 4, 5] [(AV.val (.string y1)), (AV.val (.int .i32 s.1)), (I s.2), (B y4)]) (fun (s : Int) => mkSt 94 [3] [(AV.val (.int .i32 s))]) RR_internal_strconv_underscoreOK hF cutR' ?_ ?_ ?_
     · rintro ⟨y9, y10⟩ z1 hF
       replace hF : internal_strconv_underscoreOK_L1 y1 y4 y9 y10 = some z1 := hF
       unfold internal_strconv_underscoreOK_L1 at hF
       refine mk ?_
       refine sq <| sr <| pp oMove <| pp oMove <| pp oLenS <| pp oLss <| nl <| ?_
       refine cd hF (fun hF => ?_) (fun hF => ?_)
       · refine sk <| qs <| ?_
         refine sjn (r := z1) (fun (s : Int) => mkSt 94 [0, 3, 4, 5] [(AV.val (.string y1)), (AV.val (.int .i32 s)), (I y10), (B y4)]) (fun s => internal_strconv_underscoreOK_J3 y10 s) ?_ ?_
         · refine bl <| sq <| ?_
           refine srC (fun (s : Bool) => mkSt 94 [0, 3, 4, 5, 83] [(AV.val (.string y1)), (AV.val (.int .i32 y9)), (I y10), (B y4), (B s)]) hF (fun z2 hF => ?_) (fun p1 hF => ?_)
           · refine pp oMove <| pp oMove <| ?_
             refine bb hF fun x1 h1 hF => ?_
             refine pp (oIxS h1) <| pp oLeq <| pp oMove <| ?_
             refine spl (d := 61) hF (fun hF => ?_) (fun hF => ?_)
             · refine pt ar oMove <| pt ar oMove <| ?_
               refine bb hF fun x2 h2 hF => ?_
               refine pt ar (oIxS h2) <| pt ar oLeq <| pp oPickT <| pp oMove <| ?_
               refine spl (d := 67) hF (fun hF => ?_) (fun hF => ?_)
               · refine no fun u1 k1 hk1 => ?_
                 refine no fun u2 k2 hk2 => ?_
                 refine no fun u3 k3 hk3 => ?_
                 refine no fun u4 k4 hk4 => ?_
                 refine no fun u5 k5 hk5 => ?_
                 refine no fun u6 k6 hk6 => ?_
                 refine no fun u7 k7 hk7 => ?_
                 refine no fun u8 k8 hk8 => ?_
                 refine no fun u9 k9 hk9 => ?_
                 refine no fun u10 k10 hk10 => ?_
                 refine no fun u11 k11 hk11 => ?_
                 refine no fun u12 k12 hk12 => ?_
                 refine no fun u13 k13 hk13 => ?_
                 refine no fun u14 k14 hk14 => ?_
                 refine no fun u15 k15 hk15 => ?_
                 refine pp oPickT <| ?_
                 obtain rfl := inj hF
                 exact nlC cutR'
               · refine pt ar oMove <| pt ar oMove <| ?_
                 refine splG (d := 69) hF (fun hF => ?_) (fun hF => ?_)
                 · refine pt ar oMove <| pt ar oMove <| ?_
                   refine bb hF fun x3 h3 hF => ?_
                   refine pt ar (oIxS h3) <| ?_
                   refine bb hF fun x4 h4 hF => ?_
                   refine pt ar (oCallZ (T_internal_strconv_lower h4)) <| pt ar oLeq <| pt ar oPickT <| pt ar oMove <| ?_
                   refine splG (d := 76) hF (fun hF => ?_) (fun hF => ?_)
                   · refine pt ar oMove <| pt ar oMove <| ?_
                     refine bb hF fun x5 h5 hF => ?_
                     refine pt ar (oIxS h5) <| ?_
                     refine bb hF fun x6 h6 hF => ?_
                     refine pt ar (oCallZ (T_internal_strconv_lower h6)) <| pt ar oLeq <| pt ar oPickT <| pp oPickF <| ?_
                     obtain rfl := inj hF
                     exact nlC cutR'
                   · refine no fun u16 k16 hk16 => ?_
                     refine no fun u17 k17 hk17 => ?_
                     refine no fun u18 k18 hk18 => ?_
                     refine no fun u19 k19 hk19 => ?_
                     refine no fun u20 k20 hk20 => ?_
                     refine pt ar oPickF <| pp oPickF <| ?_
                     obtain rfl := inj hF
                     exact nlC cutR'
                 · refine no fun u21 k21 hk21 => ?_
                   refine no fun u22 k22 hk22 => ?_
                   refine no fun u23 k23 hk23 => ?_
                   refine no fun u24 k24 hk24 => ?_
                   refine no fun u25 k25 hk25 => ?_
                   refine pt ar oPickF <| pt ar oMove <| ?_
                   refine no fun u26 k26 hk26 => ?_
                   refine no fun u27 k27 hk27 => ?_
                   refine no fun u28 k28 hk28 => ?_
                   refine no fun u29 k29 hk29 => ?_
                   refine no fun u30 k30 hk30 => ?_
                   refine pt ar oPickF <| pp oPickF <| ?_
                   obtain rfl := inj hF
                   exact nlC cutR'
             · refine no fun u31 k31 hk31 => ?_
               refine no fun u32 k32 hk32 => ?_
               refine no fun u33 k33 hk33 => ?_
               refine no fun u34 k34 hk34 => ?_
               refine pp oPickF <| pp oMove <| pt ar oMove <| pt ar oMove <| ?_
               refine splG (d := 69) hF (fun hF => ?_) (fun hF => ?_)
               · refine pt ar oMove <| pt ar oMove <| ?_
                 refine bb hF fun x7 h7 hF => ?_
                 refine pt ar (oIxS h7) <| ?_
                 refine bb hF fun x8 h8 hF => ?_
                 refine pt ar (oCallZ (T_internal_strconv_lower h8)) <| pt ar oLeq <| pt ar oPickT <| pt ar oMove <| ?_
                 refine splG (d := 76) hF (fun hF => ?_) (fun hF => ?_)
                 · refine pt ar oMove <| pt ar oMove <| ?_
                   refine bb hF fun x9 h9 hF => ?_
                   refine pt ar (oIxS h9) <| ?_
                   refine bb hF fun x10 h10 hF => ?_
                   refine pt ar (oCallZ (T_internal_strconv_lower h10)) <| pt ar oLeq <| pt ar oPickT <| pp oPickF <| ?_
                   obtain rfl := inj hF
                   exact nlC cutR'
                 · refine no fun u35 k35 hk35 => ?_
                   refine no fun u36 k36 hk36 => ?_
                   refine no fun u37 k37 hk37 => ?_
                   refine no fun u38 k38 hk38 => ?_
                   refine no fun u39 k39 hk39 => ?_
                   refine pt ar oPickF <| pp oPickF <| ?_
                   obtain rfl := inj hF
                   exact nlC cutR'
               · refine no fun u40 k40 hk40 => ?_
                 refine no fun u41 k41 hk41 => ?_
                 refine no fun u42 k42 hk42 => ?_
                 refine no fun u43 k43 hk43 => ?_
                 refine no fun u44 k44 hk44 => ?_
                 refine pt ar oPickF <| pt ar oMove <| ?_
                 refine no fun u45 k45 hk45 => ?_
                 refine no fun u46 k46 hk46 => ?_
                 refine no fun u47 k47 hk47 => ?_
                 refine no fun u48 k48 hk48 => ?_
                 refine no fun u49 k49 hk49 => ?_
                 refine pt ar oPickF <| pp oPickF <| ?_
                 obtain rfl := inj hF
                 exact nlC cutR'
           · refine mk ?_
             refine cd hF (fun hF => ?_) (fun hF => ?_)
             · refine sr <| pp oAssign <| nl <| ex <| qsE <| qbH <| ?_
               exact qj 48 hF cutR'
             · refine sk <| qs <| sq <| sr <| pp oMove <| pp oMove <| ?_
               refine bb hF fun x11 h11 hF => ?_
               refine pp (oIxS h11) <| pp oEql <| nl <| ?_
               refine cd hF (fun hF => ?_) (fun hF => ?_)
               · refine sq <| sr <| pp oMove <| pp oNeq <| nl <| ?_
                 refine cd hF (fun hF => ?_) (fun hF => ?_)
                 · refine sr <| pp oAssign <| nl <| rt <| qsR <| qsR <| qbR <| qjR <| ?_
                   exact lr hF ⟨rfl, fin⟩
                 · refine sk <| qs <| sr <| pp oAssign <| nl <| ex <| qsE <| qbH <| ?_
                   exact qj 95 hF cutR'
               · refine sk <| qs <| sq <| sr <| pp oMove <| pp oEql <| nl <| ?_
                 refine cd hF (fun hF => ?_) (fun hF => ?_)
                 · refine sr <| pp oAssign <| nl <| rt <| qsR <| qbR <| qjR <| ?_
                   exact lr hF ⟨rfl, fin⟩
                 · refine sk <| qs <| rg <| pp oAssign <| nl <| qb <| ?_
                   exact qj 33 hF cutR'
         · rintro y11 hF
           replace hF : internal_strconv_underscoreOK_J3 y10 y11 = some z1 := hF
           unfold internal_strconv_underscoreOK_J3 at hF
           refine mk ?_
           refine rg <| pp oMove <| pp oAdd <| pp oAssign <| nl <| ?_
           exact ln hF cutR'
       · refine ex <| qsE <| ?_
         exact lxR hF cutR'
     · intro v1 hF
       refine qmk ?_
       refine qs <| sr <| pp oMove <| pp oNeq <| pp oAssign <| nl <| rt <| ?_
       obtain rfl := inj hF
       exact fin
     · rintro r1 hF ⟨xe, xs⟩ ⟨hxe, hfin⟩
       obtain rfl : xe = Exit.ret := hxe
       obtain rfl := inj hF
       refine qbR <| qsR <| ?_
       exact hfin

end Go.Ab
