/-
  PLAIN LAWS: functions of a unit.
-/
import Derived.Test.YtbgakafgplbbnaaDoorAbLaw4
namespace Go.Ab
open Go Go.Proofs

def phiC (f : XApi_Func) (k : Nat) (p : XApi_Phi) : Int :=
  if k == 0 then 5 else if !inb p.Dst 0 (w64 (f.Regs - 1)) then 3 else if (p.From.length : Int) != ((ahS k 0 f.Blocks).length : Int) then 9 else if !p.From.all (valOk f) then 3 else 0
theorem rphi_eq (f : XApi_Func) (k : Nat) (p : XApi_Phi) (h : ToOk f) (hl : p.From.length ≤ maxLen) : turneryref2_phi f k p = some (phiC f k p) := by
  unfold turneryref2_phi phiC
  simp only [rin2, Option.bind_some, rahead_eq f k h, rvals_eq f p.From hl]
  by_cases hk : k = 0
  · simp [hk]
  · have : ((k : Int) == 0) = false := by simpa using hk
    have h2 : (k == 0) = false := by simpa using hk
    simp only [this, h2, Bool.false_eq_true, if_false]
    repeat' split
    all_goals rfl
theorem cphi_eq (u : XApi_Unit) (f : XApi_Func) (k : Nat) (hk : k < f.Blocks.length) (p : XApi_Phi) (hl : p.From.length ≤ maxLen) : code_checker_phi ⟨u, f, (List.range f.Blocks.length).map fun k : Nat => ahS (k : Int) 0 f.Blocks⟩ k p = some (phiC f k p) := by
  unfold code_checker_phi phiC code_checker_dst
  have e1 : idx ((List.range f.Blocks.length).map fun k : Nat => ahS (k : Int) 0 f.Blocks) (k : Int) = some (ahS k 0 f.Blocks) := by
    rw [idx_lt (by simpa using hk)]; simp
  simp only [cin, Option.bind_some, e1, cphi_loop _ p hl]
  by_cases hk : k = 0
  · simp [hk]
  · have : ((k : Int) == 0) = false := by simpa using hk
    have h2 : (k == 0) = false := by simpa using hk
    simp only [this, h2, Bool.false_eq_true, if_false]
    cases inb p.Dst 0 (w64 (f.Regs - 1))
    · rfl
    · simp only [Bool.not_true, Bool.false_eq_true, if_false, Option.bind_some, bne_self_eq_false]
      split
      · rfl
      · cases p.From.all (valOk f) <;> rfl

def blkC (u : XApi_Unit) (f : XApi_Func) (i : Nat) (b : XApi_Block) : Int := if firstE (phiC f i) b.Phis != 0 then firstE (phiC f i) b.Phis else firstE (insC u f) b.List
def bodyC (u : XApi_Unit) (f : XApi_Func) : Int := if firstE (fun b => endC f b.End) f.Blocks != 0 then firstE (fun b => endC f b.End) f.Blocks else firstEI (blkC u f) 0 f.Blocks

theorem toOk_of {f : XApi_Func} (h1 : inb (f.Blocks.length : Int) 1 40 = true) (he : firstE (fun b => endC f b.End) f.Blocks = 0) : ToOk f := by
  have hb : 1 ≤ f.Blocks.length ∧ f.Blocks.length ≤ 40 := by simp only [inb, Bool.and_eq_true, decide_eq_true_eq] at h1; omega
  refine ⟨hb.2, fun b hbm => ?_⟩
  have := firstE_0 he b hbm
  unfold endC at this
  by_cases hk : inb b.End.Kind 1 3 = true
  · simp only [hk, Bool.not_true, Bool.false_eq_true, if_false] at this
    by_cases hn : (b.End.To.length : Int) = b.End.Kind - 1
    · simp only [hn, bne_self_eq_false, Bool.false_eq_true, if_false] at this
      by_cases ha : b.End.To.all (toOk f) = true
      · refine ⟨by rcases kind_cases hk with h | h | h <;> omega, fun x hx => ?_⟩
        have := List.all_eq_true.1 ha x hx
        simp only [toOk, inb, Bool.and_eq_true, decide_eq_true_eq] at this
        rw [w64_id (by omega) (by omega)] at this
        omega
      · simp [ha] at this
    · simp [hn] at this
  · simp [hk] at this

theorem rbody_eq (u : XApi_Unit) (f : XApi_Func) (hu : u.Funcs.length ≤ maxLen) (hf : FOk f) (h1 : inb (f.Blocks.length : Int) 1 40 = true) : turneryref2_body u f = some (bodyC u f) := by
  have hm := maxLen_big
  obtain ⟨hf1, hf2⟩ := hf
  unfold turneryref2_body bodyC
  have e1 : Loop (fun s => turneryref2_body_L1 f s) 0 = some (brOf (if firstE (fun b => endC f b.End) f.Blocks != 0 then some (firstE (fun b => endC f b.End) f.Blocks) else none)) := by
    rw [← findI_firstE _ _ 0]
    refine Loop_find (l := f.Blocks) (fun _ b => if endC f b.End != 0 then some (endC f b.End) else none) (fun i h => ?_) ?_
    · have hb := hf2 f.Blocks[i] (List.getElem_mem _)
      unfold turneryref2_body_L1
      simp only [lt_dec h, if_true, idx_lt h, Option.bind_some, rend_eq f f.Blocks[i].End hb.2.2.1, w64_succ (i := i) (by omega)]
      by_cases hz : endC f f.Blocks[i].End = 0 <;> simp [hz]
    · unfold turneryref2_body_L1; simp only [lt_dec']; rfl
  rw [e1]
  by_cases he : firstE (fun b => endC f b.End) f.Blocks = 0
  · have hto := toOk_of h1 he
    simp only [he, bne_self_eq_false, Bool.false_eq_true, if_false, brOf, Option.bind_some]
    have e2 : Loop (fun s => turneryref2_body_L2 u f s) 0 = some (brOf (if firstEI (blkC u f) 0 f.Blocks != 0 then some (firstEI (blkC u f) 0 f.Blocks) else none)) := by
      rw [← findI_firstEI]
      refine Loop_find (l := f.Blocks) (fun i b => if blkC u f i b != 0 then some (blkC u f i b) else none) (fun i h => ?_) ?_
      · have hb := hf2 f.Blocks[i] (List.getElem_mem _)
        obtain ⟨b1, b2, b3, b4, b5⟩ := hb
        have p1 : Loop (fun s => turneryref2_body_L3 f i f.Blocks[i] s) 0 = some (brOf (if firstE (phiC f i) f.Blocks[i].Phis != 0 then some (firstE (phiC f i) f.Blocks[i].Phis) else none)) := by
          rw [← findI_firstE _ _ 0]
          refine Loop_find (l := f.Blocks[i].Phis) (fun _ p => if phiC f i p != 0 then some (phiC f i p) else none) (fun j hj => ?_) ?_
          · unfold turneryref2_body_L3
            simp only [lt_dec hj, if_true, idx_lt hj, Option.bind_some, rphi_eq f i _ hto (b4 _ (List.getElem_mem hj)), w64_succ (i := j) (by omega)]
            by_cases hz : phiC f i f.Blocks[i].Phis[j] = 0 <;> simp [hz]
          · unfold turneryref2_body_L3; simp only [lt_dec']; rfl
        have p2 : Loop (fun s => turneryref2_body_L4 u f f.Blocks[i] s) 0 = some (brOf (if firstE (insC u f) f.Blocks[i].List != 0 then some (firstE (insC u f) f.Blocks[i].List) else none)) := by
          rw [← findI_firstE _ _ 0]
          refine Loop_find (l := f.Blocks[i].List) (fun _ p => if insC u f p != 0 then some (insC u f p) else none) (fun j hj => ?_) ?_
          · unfold turneryref2_body_L4
            simp only [lt_dec hj, if_true, idx_lt hj, Option.bind_some, rins_eq u f _ hu (b5 _ (List.getElem_mem hj)), w64_succ (i := j) (by omega)]
            by_cases hz : insC u f f.Blocks[i].List[j] = 0 <;> simp [hz]
          · unfold turneryref2_body_L4; simp only [lt_dec']; rfl
        unfold turneryref2_body_L2
        simp only [lt_dec h, if_true, idx_lt h, Option.bind_some, p1, p2, w64_succ (i := i) (by omega)]
        unfold blkC
        by_cases hz : firstE (phiC f i) f.Blocks[i].Phis = 0
        · by_cases hy : firstE (insC u f) f.Blocks[i].List = 0 <;> simp [hz, hy, brOf]
        · simp [hz, brOf]
      · unfold turneryref2_body_L2; simp only [lt_dec']; rfl
    rw [e2]
    by_cases hz : firstEI (blkC u f) 0 f.Blocks = 0 <;> simp [hz, brOf]
  · simp [he, brOf]

theorem cbody_eq (u : XApi_Unit) (f : XApi_Func) (a : List (List Int)) (hu : u.Funcs.length ≤ maxLen) (hf : FOk f) (h1 : inb (f.Blocks.length : Int) 1 40 = true) : code_checker_body (XCode_checker.mk u f a) = some (bodyC u f) := by
  have hm := maxLen_big
  obtain ⟨hf1, hf2⟩ := hf
  unfold code_checker_body bodyC
  have e1 : Loop (fun (s : XCode_checker × Int) => code_checker_body_L1 (XCode_checker.mk u f a) s.1 s.2) (XCode_checker.mk u f a, 0) = some (brOf2 (XCode_checker.mk u f a) (if firstE (fun b => endC f b.End) f.Blocks != 0 then some (firstE (fun b => endC f b.End) f.Blocks) else none)) := by
    rw [← findI_firstE _ _ 0]
    refine Loop_find2 (l := f.Blocks) (fun _ b => if endC f b.End != 0 then some (endC f b.End) else none) (fun i => ((XCode_checker.mk u f a), i)) (XCode_checker.mk u f a) (fun i h => ?_) ?_
    · have hb := hf2 f.Blocks[i] (List.getElem_mem _)
      unfold code_checker_body_L1
      simp only [lt_dec h, if_true, idx_lt h, Option.bind_some, cend_eq (XCode_checker.mk u f a) f.Blocks[i].End hb.2.2.1, w64_succ (i := i) (by omega)]
      by_cases hz : endC f f.Blocks[i].End = 0 <;> simp [hz]
    · unfold code_checker_body_L1; simp only [lt_dec']; rfl
  rw [e1]
  by_cases he : firstE (fun b => endC f b.End) f.Blocks = 0
  · have hto := toOk_of h1 he
    simp only [he, bne_self_eq_false, Bool.false_eq_true, if_false, brOf2, Option.bind_some, cahead_eq f hto]
    generalize hA : (List.range f.Blocks.length).map (fun k : Nat => ahS (k : Int) 0 f.Blocks) = A
    have e2 : Loop (fun (s : XCode_checker × Int) => code_checker_body_L2 (XCode_checker.mk u f a) s.1 s.2) (XCode_checker.mk u f A, 0) = some (brOf2 () (if firstEI (blkC u f) 0 f.Blocks != 0 then some (firstEI (blkC u f) 0 f.Blocks) else none)) := by
      rw [← findI_firstEI]
      refine Loop_find2 (l := f.Blocks) (fun i b => if blkC u f i b != 0 then some (blkC u f i b) else none) (fun i => ((XCode_checker.mk u f A), i)) () (fun i h => ?_) ?_
      · have hb := hf2 f.Blocks[i] (List.getElem_mem _)
        obtain ⟨b1, b2, b3, b4, b5⟩ := hb
        have p1 : Loop (fun (s : XCode_checker × Int) => code_checker_body_L3 i f.Blocks[i] s.1 s.2) (XCode_checker.mk u f A, 0) = some (brOf2 (XCode_checker.mk u f A) (if firstE (phiC f i) f.Blocks[i].Phis != 0 then some (firstE (phiC f i) f.Blocks[i].Phis) else none)) := by
          rw [← findI_firstE _ _ 0]
          refine Loop_find2 (l := f.Blocks[i].Phis) (fun _ p => if phiC f i p != 0 then some (phiC f i p) else none) (fun j => ((XCode_checker.mk u f A), j)) (XCode_checker.mk u f A) (fun j hj => ?_) ?_
          · unfold code_checker_body_L3
            have := cphi_eq u f i h f.Blocks[i].Phis[j] (b4 _ (List.getElem_mem hj))
            rw [hA] at this
            simp only [lt_dec hj, if_true, idx_lt hj, Option.bind_some, this, w64_succ (i := j) (by omega)]
            by_cases hz : phiC f i f.Blocks[i].Phis[j] = 0 <;> simp [hz]
          · unfold code_checker_body_L3; simp only [lt_dec']; rfl
        have p2 : Loop (fun (s : XCode_checker × Int) => code_checker_body_L4 f.Blocks[i] s.1 s.2) (XCode_checker.mk u f A, 0) = some (brOf2 (XCode_checker.mk u f A) (if firstE (insC u f) f.Blocks[i].List != 0 then some (firstE (insC u f) f.Blocks[i].List) else none)) := by
          rw [← findI_firstE _ _ 0]
          refine Loop_find2 (l := f.Blocks[i].List) (fun _ p => if insC u f p != 0 then some (insC u f p) else none) (fun j => ((XCode_checker.mk u f A), j)) (XCode_checker.mk u f A) (fun j hj => ?_) ?_
          · unfold code_checker_body_L4
            simp only [lt_dec hj, if_true, idx_lt hj, Option.bind_some, cins_eq (XCode_checker.mk u f A) _ hu (b5 _ (List.getElem_mem hj)), w64_succ (i := j) (by omega)]
            by_cases hz : insC u f f.Blocks[i].List[j] = 0 <;> simp [hz]
          · unfold code_checker_body_L4; simp only [lt_dec']; rfl
        unfold code_checker_body_L2
        simp only [lt_dec h, if_true, idx_lt h, Option.bind_some, w64_succ (i := i) (by omega)]
        rw [p1]
        unfold blkC
        by_cases hz : firstE (phiC f i) f.Blocks[i].Phis = 0
        · simp only [hz, bne_self_eq_false, Bool.false_eq_true, if_false, brOf2, Option.bind_some]
          rw [p2]
          by_cases hy : firstE (insC u f) f.Blocks[i].List = 0 <;> simp [hy, brOf2]
        · simp [hz, brOf2]
      · unfold code_checker_body_L2; simp only [lt_dec']; rfl
    rw [e2]
    by_cases hz : firstEI (blkC u f) 0 f.Blocks = 0 <;> simp [hz, brOf2]
  · simp [he, brOf2]
end Go.Ab
