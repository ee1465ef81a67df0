import Derived.Test.YtbbhbdlljfffdaaGreatDoorAbGens
open List renaming range→GE
set_option linter.all false
namespace Go.Ab
open Go Go.Proofs
theorem Vm:((GE 10).all fun j=> @jg jh 500 0 ((j:Nat):Int)==some true)=true:=by kernel_rfl
theorem Vn:((GE 10).all fun j=> @jg jh 500 1 ((j:Nat):Int)==some true)=true:=by kernel_rfl
theorem Vo:((GE 10).all fun j=> @jg jh 500 2 ((j:Nat):Int)==some true)=true:=by kernel_rfl
theorem Vp:((GE 10).all fun j=> @jg jh 500 3 ((j:Nat):Int)==some true)=true:=by kernel_rfl
theorem Vq:((GE 10).all fun j=> @jg jh 500 4 ((j:Nat):Int)==some true)=true:=by kernel_rfl
theorem Vr:((GE 10).all fun j=> @jg jh 500 5 ((j:Nat):Int)==some true)=true:=by kernel_rfl
theorem Vs:((GE 10).all fun j=> @jg jh 500 6 ((j:Nat):Int)==some true)=true:=by kernel_rfl
theorem Vt:((GE 10).all fun j=> @jg jh 500 7 ((j:Nat):Int)==some true)=true:=by kernel_rfl
theorem Vu:((GE 10).all fun j=> @jg jh 500 8 ((j:Nat):Int)==some true)=true:=by kernel_rfl
theorem Vv:((GE 10).all fun j=> @jg jh 500 9 ((j:Nat):Int)==some true)=true:=by kernel_rfl
theorem Vw(i j:Nat)(hi:i<10)(hj:j<10): @jg jh 500 (i:Int) (j:Int)=some true:=by have key:∀{k:Int},((GE 10).all fun j=> @jg jh 500 k ((j:Nat):Int)==some true)=true→ @jg jh 500 k (j:Int)=some true:=fun h=>eq_of_beq (List.all_eq_true.1 h j (by simpa using hj));match i,hi with|0,_=>(exact key Vm)|1,_=>(exact key Vn)|2,_=>(exact key Vo)|3,_=>(exact key Vp)|4,_=>(exact key Vq)|5,_=>(exact key Vr)|6,_=>(exact key Vs)|7,_=>(exact key Vt)|8,_=>(exact key Vu)|9,_=>exact key Vv
theorem Xd(i j:Int): @jg jh 500 i j=some true:=by by_cases h:(0≤i∧i≤9)∧(0≤j∧j≤9);·{obtain⟨a,rfl⟩:∃a:Nat,i=(a:Int):=⟨i.toNat,by omega⟩;obtain⟨b,rfl⟩:∃b:Nat,j=(b:Int):=⟨j.toNat,by omega⟩;exact Vw a b (by omega) (by omega)};·have hp:((qk i 0 9).bind fun x2=>if(!x2)=true then some true else(qk j 0 9).bind fun x3=>some (!x3))=some true:=by{have e:∀z:Int,qk z 0 9=some (decide (0≤z∧z≤9)):=fun z=>by{unfold qk;by_cases a:0≤z<;>by_cases b:z≤9<;>simp[a,b]};rw[e,e];by_cases a:0≤i∧i≤9;·{have b:¬(0≤j∧j≤9):=fun b=>h ⟨a,b⟩;simp[a,b]};·simp[a]};unfold jg;simp only[BB,Option.bind_some,Bool.not_true,Bool.false_eq_true,if_false];rw[hp];rfl
end Go.Ab
