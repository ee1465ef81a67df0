import Derived.Test.YtbbhbdlljfffdaaGreatDoorAbFt2
import Derived.Test.YtbbhbdlljfffdaaGreatDoorAbPu8
open Bool renaming false_eq_true->Do,not_true->GE
open Option renaming bind_some->AC
set_option linter.all false
namespace Go.Ab
open Go Go.Proofs
theorem aoX(s:ByteArray):∃t f,CR 16100 s=some (t,f)∧((f.Code≠0∧t=⟨[]⟩)∨(f.Code=0∧∃N,t=⟨N⟩∧Made (·==1) N)):=by obtain⟨ts,f,a1,ht,he,h8⟩:=PO s;unfold CR J9;rw[a1,AC];by_cases hc:f.Code=0;·{obtain rfl:=he hc;simp only[beq_self_eq_true,Bool.and_self,GE,Do,if_false];rcases aoZ (l:=ts) (e:=(s.size:Int)) (fp:=16100) (fr:=16100) (t:=bC.mk []) ht (by omega) (by omega) (by omega)with⟨N,k2,h1,_,h3,h4⟩|⟨c,a,r,h1,_,_,h4⟩;·{rw[h1];obtain⟨t,f,g1,g2⟩:=Ob (l:=[]) (e:=(s.size:Int)) (q:=(·==1)) h3 (by unfold kd;rw[h4];rfl);refine⟨t,f, ?_, ?_⟩;·{simp only[AC,an.on,List.length_nil,Int.natCast_zero,Int.lt_irrefl,decide_false,Do,if_false];rw[show CS (aL N [] (s.size:Int))=we (aL N [] (s.size:Int))from rfl,g1];rfl};·rcases g2 with g2|⟨g2,g3,g4⟩;·{exact .inl g2};·exact .inr ⟨g2,N,g3,g4⟩};·rw[h1];refine⟨⟨[]⟩,⟨c,a⟩, ?_, .inl ⟨h4,rfl⟩⟩;simp only[AC,an.on,HA]};·have h1:(f.Code==0)=false:=by{simpa using hc};refine⟨⟨[]⟩,f, ?_, .inl ⟨hc,rfl⟩⟩;simp only[h1,Bool.false_and,Bool.not_false,if_true,AC]
theorem als(s e:ByteArray):JH 16100 s e=some true:=by obtain⟨t,f,h1,h2⟩:=aoX s;unfold JH EK;rw[AC,h1,AC];simp only[GE,Do,if_false];rcases h2 with⟨h2,rfl⟩|⟨h2,N,rfl,h3⟩;·{have e:(f.Code !=0)=true:=by{simpa using h2};simp only[e,if_true];exact S9 _};·have e:(f.Code !=0)=false:=by{simpa using h2};obtain⟨c1,c2,c3⟩:=JK h3;have hw:bG ((N.length:Int)-1)=((N.length-1:Nat):Int):=by{have:=h3.JS;rw[kF (by omega) (by omega)];omega};have xb:((nd N (N.length-1)).Kind !=1)=false:=by{have:(nd N (N.length-1)).Kind=1:=by{simpa using c3};simp[this]};simp only[e,Do,if_false,c1,AC,bne_self_eq_false,hw,uu (show N.length-1<N.length by omega),xb];exact S9 _
end Go.Ab
