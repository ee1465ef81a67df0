import Derived.Test.YtbikcahlonfnmaaGreatAbTake
import Derived.MapKept
import Derived.Test.YtbikcahlonfnmaaGreatAbWeak
namespace Go.Ab
open Go
def k7(e:MapEntry):List aa:=[.val e.key, .val e.val]
section
variable{P:Program}{w:World}{kt et t:TypeId}{kind:TypeDesc}{kv n7 z:Value}
theorem run_checkKey{b:Bool}(hk:P.underlying kt=some kind)(hs:Of kind=true):(Instr.checkKey b 10000 kt kv).run P w= .ok () w:=by show(Instr.checkKey b (9999+1) kt kv).run P w=_;unfold Instr.checkKey;rw[Sem.run_bind,e6 (C:={P:=P,cC:=fun _=>none,ext:=fun _=>none,cw:=fun _=>[],eR:=fun _=>[],live:=fun _ _=>[],gW:=fun _ _=>[]}) hk,Result.andThen_ok];cases kind<;>first|(cases hs;done)|rfl
theorem Q4:∀{es:List MapEntry}{r:Option Value}(i:Nat),pR kind kv (es.map k7)=some r→∃j,Instr.findNow kind kv es i=some (r.map fun v=>(j,v))|[],r,i,h=>by{simp only[List.map_nil,pR,Option.some.injEq]at h;subst h;exact⟨0,rfl⟩}|e::es,r,i,h=>by simp only[List.map_cons,k7,pR]at h;unfold Instr.findNow;split at h;·{rename_i hs;simp only[Option.some.injEq]at h;subst h;exact⟨i,by rw[hs];rfl⟩};·{rename_i hs;obtain⟨j,hj⟩:=Q4 (i+1) h;exact⟨j,by rw[hs];exact hj⟩};·cases h
theorem PF:∀{a b:ByteArray},(a==b)=true→a=b|⟨x⟩,⟨y⟩,h=>by have h':(x==y)=true:=h;rw[eq_of_beq h']
theorem PG(a:ByteArray):(a==a)=true:=by cases a with|mk x=>show(x==x)=true;simp
theorem Vb{b:Nat}{es:Array MapEntry}{clock:Nat}(hb:w.heap[b]? =some (.map es clock)):(getObj b).run P w= .ok (.map es clock) w:=by simp[getObj,Sem.run,hb]
theorem Vf{b:Nat}{es:Array MapEntry}{clock:Nat}(o:Obj)(hb:w.heap[b]? =some (.map es clock)):(setObj b o).run P w= .ok () (iX w b o):=by simp[setObj,Sem.run,hb,iX]
theorem akh{k e:Value}(h:Instr.sameNow kind k e=some true):Instr.sameBits 10000 e k=true:=by unfold Instr.sameNow at h;split at h;·{split at h;·{rename_i a k' b hk;simp only[Option.some.injEq]at h;show(_&&_)=true;have:=eq_of_beq h;subst hk this;simp};·cases h};·{simp only[Option.some.injEq]at h;have:=PF h;subst this;exact PG _};·{simp only[Option.some.injEq]at h;have:=eq_of_beq h;subst this;show(_==_)=true;simp};·cases h
theorem UB:∀{es:List MapEntry}{br:Rows}(i:Nat),zl kind kv n7 (es.map k7)=some br→(∃j v,∃hj:j<es.length,Instr.findNow kind kv es i=some (some (i+j,v))∧Instr.sameNow kind kv es[j].key=some true∧br=(es.modify j fun e=>{e with key:=kv,val:=n7}).map k7)∨(Instr.findNow kind kv es i=some none∧br=es.map k7++[[.val kv, .val n7]])|[],br,i,h=>by{simp only[List.map_nil,zl,Option.some.injEq]at h;subst h;exact .inr ⟨rfl,rfl⟩}|e::es,br,i,h=>by simp only[List.map_cons,k7,zl]at h;unfold Instr.findNow;split at h;·{rename_i hs;simp only[Option.some.injEq]at h;subst h;exact .inl ⟨0,e.val,by simp,by rw[hs];rfl,hs,by simp[k7]⟩};·{rename_i hs;obtain⟨y,hy,rfl⟩:=Option.map_eq_some_iff.1 h;rw[hs];rcases UB (i+1) hy with⟨j,v,hj,h1,h2,rfl⟩|⟨h1,rfl⟩;·{refine .inl ⟨j+1,v,by simpa using hj, ?_,by simpa using h2,by simp[k7]⟩;rw[show i+(j+1)=i+1+j by omega];exact h1};·exact .inr ⟨h1,by simp[k7]⟩};·cases h
end
section
variable{C:aO}{E:Env}{w:World}{S:ak}{a:Act}{β:Id→Option Loc}{F:Id→List Nat}
variable{next:Act→World→Prop}{Q:Exit→Act→World→Prop}
theorem aki{t:TypeId}{z:Value}(h:Oa C t=some z):(∀w:World,(zeroValue t).run C.P w= .ok z w)∧eJ z=true:=by unfold Oa at h;split at h;·{rename_i v hv;split at h;·{rename_i hs;simp only[Option.some.injEq]at h;subst h;refine⟨fun w=> ?_,hs⟩;simp only[Option.bind_eq_some_iff]at hv;obtain⟨i,hi,hz⟩:=hv;simp[zeroValue,typeInfo,hi,hz]};·cases h};·cases h
theorem Tq{t:TypeId}{kind:TypeDesc}{z:Value}(h:BN C t=some (kind,z)):∃kt et,C.P.underlying t=some (.map kt et)∧C.P.underlying kt=some kind∧Of kind=true∧(∀w:World,(zeroValue et).run C.P w= .ok z w)∧eJ z=true:=by unfold BN at h;split at h;·{rename_i kt et hu;split at h;·{rename_i kind' z' hk hz;split at h;·{rename_i hs;simp only[Option.some.injEq,Prod.mk.injEq]at h;obtain⟨rfl,rfl⟩:=h;obtain⟨h1,h2⟩:=aki hz;exact⟨kt,et,hu,hk,hs,h1,h2⟩};·cases h};·cases h};·cases h
theorem acN{w:World}{b:Nat}{es es':Array MapEntry}{c c':Nat}(h:w.heap[b]? =some (.map es c))(x:Addr):(iX w b (.map es' c')).frozen? x=w.frozen? x:=by have hb:=lE h;unfold World.frozen? ;rw[CL hb];by_cases hx:x.block=b;·{rw[if_pos hx,hx,h]};·rw[if_neg hx]
theorem ah9(h:aR C E w S a β F){o:Oper}{t:TypeId}{r:Option Operand}(ho:o.op= .makeMap t r){e:bx}(he:tF C S o t r=some e)(hd:cE S e)(hn:∀a' w',bG C E (S.app e) a' w'→next a' w'):o.wp C.P a w next Q:=by unfold tF at he;split at he;·{rename_i d hm bM;split at he;·{rename_i hc;simp only[Bool.and_eq_true,Option.isNone_iff_eq_none]at hc;obtain⟨rfl,hf⟩:=hc;simp only[Option.some.injEq]at he;subst he;have hfr:S.h [d]=none:=hf;have hd':d<S.n:=by{simpa[cE,put,bM]using hd};refine ku (v:= .map (some w.heap.size)) (w':=w.alloc (.map #[] 0)) ?_ (hn _ _ ?_);·{simp only[execOp,ho];refine nX ?_;rfl};·have e1:S.app (put o (.mr [d]) [] [([d],some [])])=⟨S.n,av S.t d (.mr [d]),av S.h [d] (some (some []))⟩:=by{simp[ak.app,put,bM,di,bw]};rw[e1];have hold:∀b,b<w.heap.size→(w.alloc (.map #[] 0)).heap[b]? =w.heap[b]? :=fun b hb=>heap_alloc_old _ _ _ hb;have hnew:(w.alloc (.map #[] 0)).heap[w.heap.size]? =some (.map #[] 0):=heap_alloc_new _ _;refine h.Je bM (kill:=[d]) (l:= .map w.heap.size) (br:=[]) (G:=[w.heap.size]) hfr (.inl rfl) (by simp[av]) (fun i hi _=>by simp[av,hi]) (fun hk=>absurd rfl hk) (by simp) rfl rfl (fun x=> ?_) (fun b hb _=>hold b hb) (xF hold) (by simp) (fun b hb=> ?_) (fun I' β' _ _ hb=> ?_) (fun I' β' hb=> .mr hb) hd';·{by_cases hx:x.block=w.heap.size;·{have e2:w.heap[x.block]? =none:=by{rw[hx];simp};simp only[World.frozen?,hx,hnew];simp};·rw[World.frozen?_alloc_old _ _ _ hx]};·{obtain rfl:=List.mem_singleton.1 hb;exact .inr ⟨Nat.le_refl _,by simp⟩};·exact .inr (.inl ⟨_,hb,rfl, #[],0,hnew,rfl,fun e he=>by simp at he⟩)};·cases he};·cases he
theorem agx(h:aR C E w S a β F){x:aa}{v:Value}{rows:Rows}{ids:List Id}(hx:R w (aK E w F) β [] v x)(hr:vT S.h x=some (rows,ids)):(v= .map none∧rows=[])∨∃b,v= .map (some b)∧nr w b rows:=by unfold vT at hr;split at hr;·{rename_i id;split at hr;·{rename_i br hid;simp only[Option.some.injEq,Prod.mk.injEq]at hr;obtain⟨rfl,rfl⟩:=hr;obtain⟨_,b,hb,rfl⟩:=hx.FB;rcases h.obj id _ hid with⟨h1,_⟩|⟨b2,h1,_,hm⟩|⟨_,_,_,_,_,_,h1,_⟩;·{rw[h1]at hb;cases hb};·{rw[h1]at hb;cases hb;exact .inr ⟨_,rfl,hm⟩};·rw[h1]at hb;cases hb};·cases hr};·{simp only[Option.some.injEq,Prod.mk.injEq]at hr;obtain⟨rfl,rfl⟩:=hr;obtain⟨_,b,rfl,_,hm⟩:=hx.afS;exact .inr ⟨b,rfl,hm⟩};·{simp only[Option.some.injEq,Prod.mk.injEq]at hr;obtain⟨rfl,rfl⟩:=hr;obtain⟨_,rfl⟩:=hx.gy;exact .inl ⟨rfl,rfl⟩};·cases hr
theorem Q5{kind:TypeDesc}{kv v:Value}:∀{es:List MapEntry},(∀e∈es,eJ e.key=true∧eJ e.val=true)→pR kind kv (es.map k7)=some (some v)→eJ v=true|[],_,h=>by{simp[pR]at h}|e::es,hs,h=>by simp only[List.map_cons,k7,pR]at h;split at h;·{simp only[Option.some.injEq]at h;subst h;exact(hs e (List.mem_cons_self ..)).2};·{exact Q5 (fun e he=>hs e (List.mem_cons_of_mem _ he)) h};·cases h
theorem ah6(h:aR C E w S a β F){o:Oper}{t:TypeId}{x k:Operand}{ok:Bool}(ho:o.op= .lookup t x k ok){e:bx}(he:oz C S o t (un true (S.get C x)) (un true (S.get C k)) ok=some e)(hd:cE S e)(hn:∀a' w',bG C E (S.app e) a' w'→next a' w'):o.wp C.P a w next Q:=by have hx:=h.ee x;have hk:=h.ee k;generalize un true (S.get C x)=xv at*;generalize un true (S.get C k)=kx at*;have hex:execOp a.eval o=(do pure (Next.value (←Instr.lookup t (a.eval x) (a.eval k) ok))):=by{simp[execOp,ho]};unfold oz at he;split at he;·{rename_i kind z rows ids kv hm hr;obtain⟨r,hf,rfl⟩:=Option.map_eq_some_iff.1 he;obtain⟨kt,et,hu,yA,hs,hz,hzs⟩:=Tq hm;obtain⟨_,hkv⟩:=hk.gy;have hK:∀es:Array MapEntry,pR kind kv (es.toList.map k7)=some r→(do Instr.checkKey es.isEmpty 10000 kt (a.eval k)let y←Instr.findKey kt (a.eval k) es.toList match y with|some (_,v)=>do let x←pure (v,true)pure (if ok=true then Value.tuple #[x.1,Value.bool x.2]else x.1)|none=>do let z←zeroValue et let x←pure (z,false)pure (if ok=true then Value.tuple #[x.1,Value.bool x.2]else x.1):Sem Value).run C.P w= .ok (if ok then .tuple #[r.getD z, .bool r.isSome]else r.getD z) w:=by{intro es hf;obtain⟨j,hj⟩:=Q4 0 hf;rw[Sem.run_bind,run_checkKey yA hs,Result.andThen_ok];have EE:(Instr.findKey kt (a.eval k) es.toList).run C.P w= .ok (r.map fun v=>(j,v)) w:=by{unfold Instr.findKey;rw[Sem.run_bind,e6 yA,Result.andThen_ok,hkv,hj];rfl};rw[Sem.run_bind,EE,Result.andThen_ok];cases r with|some v=>(rfl)|none=>simp only[Option.map_none,Option.getD_none,Option.isSome_none];rw[Sem.run_bind,hz w,Result.andThen_ok];rfl};have hrun:(Instr.lookup t (a.eval x) (a.eval k) ok).run C.P w= .ok (if ok then .tuple #[r.getD z, .bool r.isSome]else r.getD z) w∧eJ (r.getD z)=true:=by{unfold Instr.lookup;rw[Sem.run_bind,e6 hu,Result.andThen_ok];rcases agx h hx hr with⟨hv,rfl⟩|⟨b,hv,es,clock,hb,rfl,hsc⟩;·{refine⟨?_, ?_⟩;·{rw[hv];exact hK #[] hf};·simp only[pR,Option.some.injEq]at hf;subst hf;exact hzs};·refine⟨?_, ?_⟩;·{rw[hv];simp only;rw[Sem.run_bind,Vb hb,Result.andThen_ok];exact hK es hf};·cases r with|none=>(exact hzs)|some v=>exact Q5 hsc hf};obtain⟨hrun,SB⟩:=hrun;refine ga h hd hex hrun ?_ hn;cases ok with|false=>(exact .val SB)|true=>exact .bL (.cons (f1:=[]) (f2:=[]) (.val SB) (.cons (f1:=[]) (f2:=[]) (.val rfl) .nil))};·cases he
theorem T8 (h : aR C E w S a β F) {o : Oper} {t : TypeId} {x k v : Operand} (ho : o.op = .mapUpdate t x k v ∨ o.op = .insert t x k v) {e : bx}
    (he : qT C S o t (un true (S.get C x)) (un true (S.get C k)) (un true (S.get C v)) = some e) (hd : cE S e) (hn : ∀ a' w', bG C E (S.app e) a' w' → next a' w') : o.wp C.P a w next Q := by
  have hx := h.ee x
  have hk := h.ee k
  have hv := h.ee v
  generalize un true (S.get C x) = xv at *
  generalize un true (S.get C k) = kx at *
  generalize un true (S.get C v) = vx at *
  have hex : execOp a.eval o = (do Instr.mapUpdate t (a.eval x) (a.eval k) (a.eval v); pure Next.skip) := by rcases ho with ho | ho <;> simp [execOp, ho]
  unfold qT at he
  split at he
  · rename_i kind z id kv n7 hm
    split at he
    · rename_i rows hid
      split at he
      · rename_i hc
        simp only [Bool.and_eq_true, Option.isNone_iff_eq_none] at hc
        obtain ⟨⟨eS, SG⟩, bM⟩ := hc
        obtain ⟨br, hp, rfl⟩ := Option.map_eq_some_iff.1 he
        obtain ⟨kt, et, hu, yA, hs, _, _⟩ := Tq hm
        obtain ⟨_, hkv⟩ := hk.gy
        obtain ⟨_, afx⟩ := hv.gy
        obtain ⟨_, b, bK, yK⟩ := hx.FB
        have ES := h.obj id rows hid
        obtain ⟨hF, es, clock, hb, rfl, hsc⟩ : F id = [b] ∧ nr w b rows := by
          rcases ES with ⟨h1, _⟩ | ⟨b2, h1, h2, hm⟩ | ⟨_, _, _, _, _, _, h1, _⟩
          · rw [h1] at bK; cases bK
          · rw [h1] at bK; cases bK; exact ⟨h2, hm⟩
          · rw [h1] at bK; cases bK
        have pX := lE hb
        have key : ∃ es' : Array MapEntry, ∃ c' : Nat, (Instr.mapUpdate t (a.eval x) (a.eval k) (a.eval v)).run C.P w = .ok () (iX w b (.map es' c')) ∧ br = es'.toList.map k7 ∧ ∀ e ∈ es'.toList, eJ e.key = true ∧ eJ e.val = true := by
          have pre : ∀ {r : Option (Nat × Value)}, Instr.findNow kind kv es.toList 0 = some r → (Instr.mapUpdate t (a.eval x) (a.eval k) (a.eval v)).run C.P w = (match r with
              | some (i, _) => (do
                let key ← Instr.keyThatStays (((es[i]?).map MapEntry.key).getD kv) kv
                setObj b (.map (es.modify i fun e => { e with key, val := n7 }) clock) : Sem Unit)
              | none => setObj b (.map (es.push { key := kv, val := n7, born := clock }) (clock + 1))).run C.P w := by
            intro r hr
            unfold Instr.mapUpdate
            rw [Sem.run_bind, e6 hu, Result.andThen_ok]
            simp only [yK, hkv, afx]
            rw [Sem.run_bind, Vb hb, Result.andThen_ok]
            simp only
            rw [Sem.run_bind, run_checkKey yA hs, Result.andThen_ok, Sem.run_bind]
            have EE : (Instr.findKey kt kv es.toList).run C.P w = .ok r w := by
              unfold Instr.findKey
              rw [Sem.run_bind, e6 yA, Result.andThen_ok, hr]
              rfl
            rw [EE, Result.andThen_ok]
            cases r with
            | none => rfl
            | some y => rfl
          rcases UB (kind := kind) (kv := kv) (n7 := n7) 0 hp with ⟨j, v0, hj, h1, h2, rfl⟩ | ⟨h1, rfl⟩
          · have hj' : j < es.size := by simpa using hj
            refine ⟨es.modify j fun e => { e with key := kv, val := n7 }, clock, ?_, by simp [Array.toList_modify], fun e he => ?_⟩
            · rw [pre h1]
              simp only [Nat.zero_add]
              have e1 : ((es[j]?).map MapEntry.key).getD kv = es.toList[j].key := by simp [hj']
              rw [e1, Sem.run_bind]
              have e2 : (Instr.keyThatStays es.toList[j].key kv).run C.P w = .ok kv w := by
                unfold Instr.keyThatStays
                rw [if_pos (akh h2)]; rfl
              rw [e2, Result.andThen_ok, Vf _ hb]
            · rw [Array.toList_modify] at he
              obtain ⟨i, hi, rfl⟩ := List.getElem_of_mem he
              rw [List.getElem_modify]
              split
              · exact ⟨eS, SG⟩
              · exact hsc _ (List.getElem_mem _)
          · refine ⟨es.push { key := kv, val := n7, born := clock }, clock + 1, ?_, by simp [k7], fun e he => ?_⟩
            · rw [pre h1]
              simp only
              rw [Vf _ hb]
            · simp only [Array.toList_push, List.mem_append, List.mem_singleton] at he
              rcases he with he | rfl
              · exact hsc e he
              · exact ⟨eS, SG⟩
        obtain ⟨es', c', hrun, rfl, afk⟩ := key
        have lZ : ∀ k, (iX w b (.map es' c')).heap[k]? = if k = b then some (.map es' c') else w.heap[k]? := CL pX
        refine OD (w' := iX w b (.map es' c')) (by rw [hex]; exact Vh hrun) (hn _ _ ⟨β, F, ?_⟩)
        have e1 : S.app (put o .bz [id] [(id, some (es'.toList.map k7))]) = ⟨S.n, S.t, av S.h id (some (some (es'.toList.map k7)))⟩ := by simp [ak.app, put, bM, di, bw]
        have e2 : a.put o.dst undef = a := by rw [bM]; rfl
        rw [e1, e2]
        refine h.step (hok := fun k r2 hk mX => by
          by_cases e : k = id
          · subst e; exact ⟨_, by assumption⟩
          · exact ⟨r2, by simpa [av, e] using mX⟩) (· = id) h.n (by simp [iX]) rfl rfl (fun x => acN hb x) (fun bb _ fe => ?_) (fun _ _ h => h) (fun i bb fe => .inl ⟨i, fe⟩) (fun i hi => ⟨rfl, by simp [av, hi]⟩) (fun hI i hi e8 mX => ?_) (fun i hi hno => ?_) (fun i _ => h.nd i) (fun i j bb _ h1 h2 => h.dx i j bb h1 h2) (fun i hi => ?_) (fun _ t => .inl ⟨rfl, rfl⟩) (hdf := rfl) (fC := ?_)
        · rw [lZ, if_neg]
          intro e; subst e
          exact fe id rfl (by rw [hF]; exact List.mem_singleton.2 rfl)
        · subst hi
          simp only [av, if_true, Option.some.injEq] at mX
          subst mX
          exact .inr (.inl ⟨b, bK, hF, es', c', by rw [lZ, if_pos rfl], rfl, afk⟩)
        · subst hi
          exact absurd (by simp [av]) (hno (es'.toList.map k7))
        · refine h.dom i ?_
          by_cases R7 : i = id
          · subst R7; simp [av] at hi
          · simpa [av, R7] using hi
        · intro bb n hB
          obtain ⟨c2, e2, hM, hn2⟩ := hB
          refine ⟨c2, e2, ?_, hn2⟩
          rw [lZ, if_neg]
          · exact hM
          · intro e; subst e; rw [hb] at hM; cases hM
      · cases he
    · cases he
  · cases he
end
end Go.Ab
namespace Go.Ab
open Go
theorem Li{g:Id→List Nat}:∀{l:List Id},(l.flatMap g).Nodup→∀{i j:Id}{b:Nat},i∈l→j∈l→b∈g i→b∈g j→i=j|[],_,i,_,_,h,_,_,_=>by{cases h}|x::l,hn,i,j,b,hi,hj,hb,hb'=>by simp only[List.flatMap_cons]at hn;obtain⟨_,h2,h3⟩:=List.nodup_append.1 hn;rcases List.mem_cons.1 hi with QK|hi2<;>rcases List.mem_cons.1 hj with HN|hj2;·{rw[QK,HN]};·{exact absurd rfl (h3 b (QK▸hb) b (List.mem_flatMap.2 ⟨j,hj2,hb'⟩))};·{exact absurd rfl (h3 b (HN▸hb') b (List.mem_flatMap.2 ⟨i,hi2,hb⟩))};·exact Li h2 hi2 hj2 hb hb'
theorem Re{g:Id→List Nat}{l:List Id}(hn:(l.flatMap g).Nodup){i:Id}(hi:i∈l):(g i).Nodup:=by induction l with|nil=>(cases hi)|cons x l ih=>simp only[List.flatMap_cons]at hn;rcases List.mem_cons.1 hi with rfl|hi;·{exact(List.nodup_append.1 hn).1};·exact ih (List.nodup_append.1 hn).2.1 hi
theorem agU{l:List (Id×Id)}(hn:(l.map (·.2)).Nodup){k:Id}(h:k∈l.map (·.2)):∃o,fN l k=some o:=by obtain⟨x,hx,rfl⟩:=List.mem_map.1 h;exact⟨x.1,oU hn hx⟩
theorem aoE{obs:List aa}{hl:List (Id×Rows)}(h:rB obs=some hl):∀k rows,(k,rows)∈hl↔aa.dL k rows∈obs:=by induction obs generalizing hl with|nil=>(simp only[rB,Option.some.injEq]at h;subst h;simp)|cons a obs ih=>cases a with|dL i r=>(simp only[rB,Option.map_eq_some_iff]at h;obtain⟨y,hy,rfl⟩:=h;intro k rows;simp[ih hy])|_=>simp[rB]at h
theorem UY{l:List (Id×Id)}(hn:(l.map (·.2)).Nodup){rows br:Rows}(h:mu l rows=some br):ke (fN l) br rows:=by unfold mu at h;split at h;·{rename_i hf;simp only[Option.some.injEq]at h;subst h;exact .of_flat hf};·exact NX hn h
section
variable{C:aO}{E:Env}{w:World}{S:ak}{a:Act}{β:Id→Option Loc}{F:Id→List Nat}
variable{next:Act→World→Prop}{Q:Exit→Act→World→Prop}
theorem T2(h:aR C E w S a β F){l:List (Id×Id)}(hn:(l.map (·.2)).Nodup)(eS:(l.map (·.1)).Nodup):∀{r:List (Id×Id)}{obs gone},hU S.h l r=some (obs,gone)→(∀x∈r,x∈l)→(r.map (·.1)).Nodup→∃hl,rB obs=some hl∧hl.map (·.1)=r.map (·.2)∧∃(g:Id→List Nat)(rest:List Nat),(∀o k,(o,k)∈r→∀rows,(k,rows)∈hl→dU w (aK E w F) (fun i=>(fN l i).bind β) k rows (g o))∧((r.map (·.1)).flatMap g++rest).Perm ((r.map (·.1)).flatMap F++gone.flatMap F)|[],obs,gone,ho,_,_=>by{simp only[hU,Option.some.injEq,Prod.mk.injEq]at ho;obtain⟨rfl,rfl⟩:=ho;exact⟨[],rfl,rfl,fun _=>[],[],(fun _ _ h=>by cases h),by simp⟩}|(o,k)::r,obs,gone,ho,hl,hr=>by simp only[hU]at ho;split at ho;·{rename_i rows cp;simp only[Option.bind_eq_some_iff,Option.map_eq_some_iff,Prod.mk.injEq]at ho;obtain⟨x,hx,br,aff,⟨FG,gone'⟩,hy,rfl,rfl⟩:=ho;obtain⟨hl',e1,e2,g,rest,g1,g2⟩:=T2 h hn eS hy (fun x hx=>hl x (List.mem_cons_of_mem _ hx)) (List.nodup_cons.1 hr).2;have hkeep:∀i lo,uc l i=true→β i=some lo→β i=some lo:=fun _ _ _ h=>h;obtain⟨go,ro,k1,k2⟩:=(h.obj o rows cp).closed h.obj hkeep hx (fun _ h=>h);have hm:fN l k=some o:=oU hn (hl (o,k) (List.mem_cons_self ..));have cU:=k1.mq hm (UY hn aff);have hno:o∉r.map (·.1):=(List.nodup_cons.1 hr).1;refine⟨(k,br)::hl',by simp[rB,e1],by simp[e2],fun i=>if i=o then go else g i,ro++rest, ?_, ?_⟩;·{intro o2 k' hm2 e8 Sm;rcases List.mem_cons.1 hm2 with p2|cn;·{simp only[Prod.mk.injEq]at p2;obtain⟨rfl,rfl⟩:=p2;rcases List.mem_cons.1 Sm with p3|cP;·{simp only[Prod.mk.injEq,true_and]at p3;subst p3;simpa using cU};·exfalso;have:k'∈r.map (·.2):=by{rw[←e2];exact List.mem_map.2 ⟨_,cP,rfl⟩};obtain⟨⟨TI,MY⟩,h3,bN⟩:=List.mem_map.1 this;have h4:=oU hn (hl _ (List.mem_cons_of_mem _ h3));have tC:MY=k':=bN;rw[tC,hm]at h4;simp only[Option.some.injEq]at h4;exact hno (h4▸List.mem_map.2 ⟨_,h3,rfl⟩)};·have hne:o2≠o:=fun e=>hno (e▸List.mem_map.2 ⟨_,cn,rfl⟩);simp only[if_neg hne];rcases List.mem_cons.1 Sm with p3|cP;·{exfalso;simp only[Prod.mk.injEq]at p3;have h4:=oU hn (hl _ (List.mem_cons_of_mem _ cn));rw[p3.1,hm]at h4;simp only[Option.some.injEq]at h4;exact hne h4.symm};·exact g1 o2 k' cn e8 cP};·have e:(r.map (·.1)).flatMap (fun i=>if i=o then go else g i)=(r.map (·.1)).flatMap g:=by{rw[List.flatMap_def,List.flatMap_def];congr 1;refine List.map_congr_left fun i hi=> ?_;have:i≠o:=fun e=>hno (e▸hi);simp[this]};simp only[List.map_cons,List.flatMap_cons,if_true,e,List.flatMap_append];have:=sK k2 g2;rw[List.perm_iff_count]at this⊢;intro z;have:=this z;simp only[List.count_append]at this⊢;omega};·cases ho
theorem ada(h:aR C E w S a β F){l:List (Id×Id)}{obs:List aa}{gone:List Id}{args:List aa}{vs:List Value}(ha:aG w (aK E w F) β [] vs args)(ho:hU S.h l l=some (obs,gone))(m5:(l.map (·.1)).Nodup)(m6:(l.map (·.2)).Nodup)(Jg:gone.Nodup)(u7:∀i∈gone,i∉l.map (·.1)):∃hl G,rB obs=some hl∧hl.map (·.1)=l.map (·.2)∧G6 C w (aK E w F) (fun i=>(fN l i).bind β) G hl vs (args.map (fj l))∧(∀k b,b∈G k→∃i,(i∈l.map (·.1)∨i∈gone)∧b∈F i):=by obtain⟨hl,e1,e2,g,rest,g1,g2⟩:=T2 h m6 m5 ho (fun _ h=>h) m5;have hall:((l.map (·.1))++gone).Nodup:=List.nodup_append.2 ⟨m5,Jg,fun x hx y hy e=>u7 y hy (e▸hx)⟩;have cm:((l.map (·.1)).flatMap g).Nodup:=by{have h1:=h.Lj hall;rw[List.flatMap_append]at h1;exact(List.nodup_append.1 (g2.nodup_iff.2 h1)).1};have hmem:∀i b,i∈l.map (·.1)→b∈g i→∃j,(j∈l.map (·.1)∨j∈gone)∧b∈F j:=fun i b hi hb=>by{have h1:b∈(l.map (·.1)).flatMap F++gone.flatMap F:=g2.mem_iff.1 (List.mem_append_left _ (List.mem_flatMap.2 ⟨i,hi,hb⟩));rcases List.mem_append.1 h1 with h1|h1;·{obtain⟨j,hj,hb⟩:=List.mem_flatMap.1 h1;exact⟨j, .inl hj,hb⟩};·obtain⟨j,hj,hb⟩:=List.mem_flatMap.1 h1;exact⟨j, .inr hj,hb⟩};let G:Id→List Nat:=fun k=>match fN l k with|some o=>g o|none=>[];have dJ:∀k b,b∈G k→∃o,fN l k=some o∧o∈l.map (·.1)∧b∈g o:=fun k b hb=>by{simp only[G]at hb;cases ho:fN l k with|none=>(rw[ho]at hb;cases hb)|some o=>rw[ho]at hb;exact⟨o,rfl,List.mem_map.2 ⟨_,qb ho,rfl⟩,hb⟩};have adw:∀b,aK E w F b→∀k,b∉G k:=fun b hb k hk=>by{obtain⟨o,_,h2,h3⟩:=dJ k b hk;obtain⟨j,_,h4⟩:=hmem o b h2 h3;exact hb.2.2 j h4};refine⟨hl,G,e1,e2,{args:= ?_,obj:= ?_,out:= ?_,nd:= ?_,dx:= ?_,lt:= ?_,i0:=fun b hb=>⟨hb.2.1,adw b hb⟩,cC:=fun g cs hg=>(h.cC g cs hg).p7 rfl fun _ h=>h}, ?_⟩;·{have go:∀{as:List aa}{vs:List Value},aG w (aK E w F) β [] vs as→aG w (aK E w F) (fun i=>(fN l i).bind β) [] vs (as.map (fj l)):=fun{as}=>by{induction as with|nil=>(intro vs h;obtain⟨_,rfl⟩:=h.fO;exact .nil)|cons x as ih=>intro vs h;obtain⟨f1,f2,v,vs',e,rfl,h1,h2⟩:=h.cons_inv;have e':=List.append_eq_nil_iff.1 e.symm;obtain⟨rfl,rfl⟩:=e';exact R.cons (f1:=[]) (f2:=[]) (h1.mq (NV m6 x) rfl) (ih h2)};exact go ha};·{intro k rows hk;obtain⟨o,ho⟩:=agU m6 (show k∈l.map (·.2)by rw[←e2];exact List.mem_map.2 ⟨_,hk,rfl⟩);have:=g1 o k (qb ho) rows hk;simpa only[G,ho]using this};·{intro k hk;rw[e2]at hk;have:fN l k=none:=by{cases hx:fN l k with|none=>(rfl)|some o=>exact absurd (List.mem_map.2 ⟨_,qb hx,rfl⟩) hk};simp[G,this]};·{intro k;simp only[G];cases ho:fN l k with|none=>(exact List.nodup_nil)|some o=>exact Re cm (List.mem_map.2 ⟨_,qb ho,rfl⟩)};·{intro i j b hi hj;obtain⟨o,bN,h3,h4⟩:=dJ i b hi;obtain⟨o',eM,h5,h6⟩:=dJ j b hj;have:=Li cm h3 h5 h4 h6;subst this;exact Lo m5 (qb bN) (qb eM)};·{intro k b hb;obtain⟨o,_,h2,h3⟩:=dJ k b hb;obtain⟨j,_,h4⟩:=hmem o b h2 h3;exact(h.lt j b h4).1};·intro k b hb;obtain⟨o,_,h2,h3⟩:=dJ k b hb;obtain⟨j,h4,h5⟩:=hmem o b h2 h3;exact⟨j,h4,h5⟩
theorem R.ajB{I:Nat→Prop}{m:Id→Option Id}{f:List Nat}{v:Value}{a b:aa}(h:R w I β f v b)(hr:tf m a b):∃f2,(f2=f∨f2=[])∧R w I (fun i=>(m i).bind β) f2 v a:=by cases hr with|cell hc=>(exact⟨f, .inl rfl,h.NW hc⟩)|agg hl=>(obtain⟨vs,rfl,h⟩:=h.pG;exact⟨f, .inl rfl,aG.mq hl h⟩)|bL hl=>(obtain⟨vs,rfl,hu⟩:=h.C1;exact⟨f, .inl rfl, .bL (aG.mq hl hu)⟩)|fn h1 h2=>(obtain⟨rfl,vs,cs,rfl,k1,k2⟩:=h.qX;exact⟨[], .inl rfl, .fn (aG.mq h1 k1) (aG.mq h2 k2)⟩)|bz=>exact⟨[], .inr rfl, .bz⟩
theorem xE{l':List (Id×Id)}:∀{r:List (Id×Id)}{outs:List aa}{back:List (Id×Option Rows)},iw l' r outs=some back→back.map (·.1)=r.map (·.1)∧∀x∈back,∀br,x.2=some br→∃k rows,(x.1,k)∈r∧aa.dL k rows∈outs∧mu l' rows=some br|[],[],back,h=>by{simp only[iw,Option.some.injEq]at h;subst h;exact⟨rfl,fun x hx=>by cases hx⟩}|[],a::outs,back,h=>by{simp[iw]at h}|(o,k)::r,[],back,h=>by{simp[iw]at h}|(o,k)::r,a::outs,back,h=>by cases a with|dL k' rows=>(simp only[iw]at h;split at h;·{rename_i e;subst e;simp only[Option.bind_eq_some_iff,Option.map_eq_some_iff]at h;obtain⟨br,h1,y,h2,rfl⟩:=h;obtain⟨i1,i2⟩:=xE h2;refine⟨by simp[i1],fun x hx e8 e=> ?_⟩;rcases List.mem_cons.1 hx with rfl|hx;·{simp only[Option.some.injEq]at e;subst e;exact⟨_,rows,List.mem_cons_self ..,List.mem_cons_self ..,h1⟩};·obtain⟨k2,r2,m1,m2,kL⟩:=i2 x hx e8 e;exact⟨k2,r2,List.mem_cons_of_mem _ m1,List.mem_cons_of_mem _ m2,kL⟩};·cases h)|bz=>(simp only[iw,Option.map_eq_some_iff]at h;obtain⟨y,h2,rfl⟩:=h;obtain⟨i1,i2⟩:=xE h2;refine⟨by simp[i1],fun x hx e8 e=> ?_⟩;rcases List.mem_cons.1 hx with rfl|hx;·{cases e};·obtain⟨k2,r2,m1,m2,kL⟩:=i2 x hx e8 e;exact⟨k2,r2,List.mem_cons_of_mem _ m1,List.mem_cons_of_mem _ m2,kL⟩)|_=>simp[iw]at h
theorem TZ{L:Id→Option (Option Rows)}{l:List (Id×Id)}:∀{r:List (Id×Id)}{x},hU L l r=some x→∀i∈r.map (·.1),∃rows,L i=some (some rows)|[],_,_,i,hi=>by{cases hi}|(o,k)::r,x,h,i,hi=>by simp only[hU]at h;split at h;·{rename_i rows cp;simp only[Option.bind_eq_some_iff,Option.map_eq_some_iff]at h;obtain⟨_,_,_,_,y,hy,_⟩:=h;rcases List.mem_cons.1 hi with rfl|hi;·{exact⟨rows,cp⟩};·exact TZ hy i hi};·cases h
theorem ajA{l:List (Id×Id)}{i:Id}(h:i∈l.map (·.1)):∃k,fT l i=some k:=by induction l with|nil=>(cases h)|cons x l ih=>obtain⟨o,k⟩:=x;simp only[fT];split;·{exact⟨k,rfl⟩};·rename_i hne;rcases List.mem_cons.1 h with e|h;·{exact absurd e.symm hne};·exact ih h
open Classical in theorem aR.adf(h:aR C E w S a β F){l:List (Id×Id)}{gone:List Id}{back news:List (Id×Option Rows)}{G G' rW:Id→List Nat}{fr:List Nat}{I':Nat→Prop}{w':World}{β':Id→Option Loc}{a':Act}{t':Nat→aa}(m5:(l.map (·.1)).Nodup)(m6:(l.map (·.2)).Nodup)(u7:∀i∈gone,i∉l.map (·.1))(live:∀i∈l.map (·.1),∃rows,S.h i=some (some rows))(ac7:∀i∈gone,∃rows,S.h i=some (some rows))(q3:∀k b,b∈G k→∃i,(i∈l.map (·.1)∨i∈gone)∧b∈F i)(hk:Kept w w' fun b=>∃k,b∈G k)(nU:∀k,(G' k).Nodup)(JC:∀i j b,b∈G' i→b∈G' j→i=j)(UG:∀k b,b∈G' k→b∉fr)(JD:∀b,(b∈fr∨∃k,b∈G' k)→b<w'.heap.size∧((∃k,b∈G k)∨w.heap.size≤b))(ajm:∀b,I' b→(aK E w F b∨(∃k,b∈G k)∨w.heap.size≤b)∧b<w'.heap.size∧b∉fr∧∀k,b∉G' k)(RX:back.map (·.1)=l.map (·.1))(kg:∀x∈back,∀br,x.2=some br→∃k,(x.1,k)∈l∧dU w' I' β x.1 br (G' k))(i1:∀i lo,β i=some lo→β' i=some lo)(i2:∀i,(∀x∈news,x.1≠i)→β' i=β i∧rW i=[])(i3:∀x∈news,∃rows,x.2=some rows∧dU w' I' β' x.1 rows (rW x.1))(i4:∀i,(rW i).Nodup∧∀b∈rW i,b∈fr)(i5:∀i j b,b∈rW i→b∈rW j→i=j)(mQ:∀x∈news,S.h x.1=none)(yB:∀x∈news,¬E.K x.1)(hn:a'.tmps.size=S.n)(hdf:a'.defers=a.defers)(E1:∀F',(∀b,aK E w F b→aK E w' F' b)→(∀b,I' b→aK E w' F' b)→∀t,(a'.tmps.getD t undef=a.tmps.getD t undef∧t' t=S.t t)∨R w' (aK E w' F') β' [] (a'.tmps.getD t undef) (t' t)):bG C E ⟨S.n,t',bw S.h (news++(back++gone.map fun i=>(i,none)))⟩ a' w':=by let hp:=bw S.h (news++(back++gone.map fun i=>(i,none)));let er:Id→List Nat:=fun i=>if(∃rows,hp i=some (some rows))then(if i∈l.map (·.1)then(match fT l i with|some k=>G' k|none=>[])else F i++rW i)else[];have IJ:∀x∈news,x.1∉l.map (·.1):=fun x hx hm=>by{obtain⟨rows,e⟩:=live _ hm;rw[mQ x hx]at e;cases e};have Sq:∀x∈news,x.1∉gone:=fun x hx hm=>by{obtain⟨rows,e⟩:=ac7 _ hm;rw[mQ x hx]at e;cases e};have pX:∀x∈back,x.1∈l.map (·.1):=fun x hx=>by{rw[←RX];exact List.mem_map.2 ⟨x,hx,rfl⟩};have pY:∀i,(∃x∈news,x.1=i∧hp i=some x.2)∨((∀x∈news,x.1≠i)∧∃x∈back,x.1=i∧hp i=some x.2)∨((∀x∈news,x.1≠i)∧i∉l.map (·.1)∧i∈gone∧hp i=some none)∨((∀x∈news,x.1≠i)∧i∉l.map (·.1)∧i∉gone∧hp i=S.h i):=fun i=>by{rcases fU S.h (news++(back++gone.map fun i=>(i,none))) i with⟨x,hx,e1,e2⟩|⟨h1,h2⟩;·{by_cases tR:∃y∈news,y.1=i;·{obtain⟨y,hy,HU⟩:=tR;rcases List.mem_append.1 hx with hx|hx;·{exact .inl ⟨x,hx,e1,e2⟩};·exfalso;rcases List.mem_append.1 hx with hx|hx;·{exact IJ y hy (by rw[HU,←e1];exact pX x hx)};·obtain⟨j,hj,rfl⟩:=List.mem_map.1 hx;exact Sq y hy (by rw[HU,←e1];exact hj)};·have Mw:∀x∈news,x.1≠i:=fun y hy e=>tR ⟨y,hy,e⟩;rcases List.mem_append.1 hx with hx|hx;·{exact absurd e1 (Mw x hx)};·rcases List.mem_append.1 hx with hx|hx;·{exact .inr (.inl ⟨Mw,x,hx,e1,e2⟩)};·obtain⟨j,hj,rfl⟩:=List.mem_map.1 hx;have abA:j=i:=e1;subst abA;exact .inr (.inr (.inl ⟨Mw,u7 j hj,hj,e2⟩))};·refine .inr (.inr (.inr ⟨fun x hx=>h1 x (List.mem_append_left _ hx),fun hm=> ?_,fun hm=> ?_,h2⟩));·{rw[←RX]at hm;obtain⟨x,hx,e⟩:=List.mem_map.1 hm;exact h1 x (List.mem_append_right _ (List.mem_append_left _ hx)) e};·exact h1 (i,none) (List.mem_append_right _ (List.mem_append_right _ (List.mem_map.2 ⟨i,hm,rfl⟩))) rfl};have G2:∀i b,b∈er i→(∃k,b∈G' k∧fT l i=some k∧i∈l.map (·.1))∨(i∉l.map (·.1)∧i∉gone∧b∈F i)∨(i∉l.map (·.1)∧(∃x∈news,x.1=i)∧b∈rW i):=fun i b hb=>by{simp only[er]at hb;split at hb;·{rename_i iz;split at hb;·{rename_i vt;cases hr:fT l i with|none=>(rw[hr]at hb;cases hb)|some k=>rw[hr]at hb;exact .inl ⟨k,hb,rfl,vt⟩};·rename_i vt;rcases List.mem_append.1 hb with hb|hb;·{refine .inr (.inl ⟨vt,fun hg=> ?_,hb⟩);obtain⟨rows,iz⟩:=iz;rcases pY i with⟨x,hx,e,_⟩|⟨_,x,hx,e,_⟩|⟨_,_,_,e⟩|⟨_,_,e,_⟩;·{exact Sq x hx (e▸hg)};·{exact vt (e▸pX x hx)};·{rw[e]at iz;cases iz};·exact e hg};·refine .inr (.inr ⟨vt, ?_,hb⟩);by_cases tR:∃x∈news,x.1=i;·{exact tR};·rw[(i2 i fun x hx e=>tR ⟨x,hx,e⟩).2]at hb;cases hb};·cases hb};have Et:∀b,I' b→aK E w' er b:=fun b hb=>by{obtain⟨k1,k2,cU,eE⟩:=ajm b hb;refine⟨?_,k2,fun i hm=> ?_⟩;·{rcases k1 with k1|⟨k,k1⟩|k1;·{exact k1.1};·{obtain⟨i,_,hi⟩:=q3 k b k1;exact(h.lt i b hi).2.elim (fun h=> .inr (.inl h)) (fun h=> .inr (.inr h))};·exact .inr (.inr (Nat.le_trans h.kept.size k1))};·rcases G2 i b hm with⟨k,hg,_⟩|⟨n1,n2,hf⟩|⟨_,_,hg⟩;·{exact eE k hg};·{rcases k1 with k1|⟨k,k1⟩|k1;·{exact k1.2.2 i hf};·{obtain⟨j,hj,hf'⟩:=q3 k b k1;have:=h.dx i j b hf hf';subst this;exact hj.elim n1 n2};·have:=(h.lt i b hf).1;omega};·exact cU ((i4 i).2 b hg)};refine⟨β',er, ?_⟩;have aeX:∀i,¬(i∈l.map (·.1)∨i∈gone∨∃x∈news,x.1=i)→er i=F i∧hp i=S.h i:=fun i hi=>by{have n1:i∉l.map (·.1):=fun e=>hi (.inl e);have n2:i∉gone:=fun e=>hi (.inr (.inl e));have oT:∀x∈news,x.1≠i:=fun x hx e=>hi (.inr (.inr ⟨x,hx,e⟩));have e:hp i=S.h i:=by{rcases pY i with⟨x,hx,e,_⟩|⟨_,x,hx,e,_⟩|⟨_,_,e,_⟩|⟨_,_,_,e⟩;·{exact absurd e (oT x hx)};·{exact absurd (e▸pX x hx) n1};·{exact absurd e n2};·exact e};refine⟨?_,e⟩;simp only[er];split;·{rw[(i2 i oT).2,List.append_nil]};·rename_i iz;exact(h.dead i fun rows e'=>iz ⟨rows,by rw[e];exact e'⟩).symm};refine h.CS (fun i=>i∈l.map (·.1)∨i∈gone∨∃x∈news,x.1=i) hn hk.size hk.os hk.out hk.eR ?_ i1 ?_ aeX ?_ ?_ ?_ ?_ ?_ ?_ (hdf:=hdf) (fC:=hk.o8) (hok:=jB.of rfl fun x hx hne=> ?_);·{intro b hb hno;refine hk.cX b hb fun⟨k,hm⟩=> ?_;obtain⟨i,hi,hf⟩:=q3 k b hm;exact hno i (hi.elim .inl fun h=> .inr (.inl h)) hf};·{intro i b hb;have VY:∀{b:Nat},b<w'.heap.size∧((∃k,b∈G k)∨w.heap.size≤b)→(∃i,b∈F i)∨(w.heap.size≤b∧b<w'.heap.size):=fun⟨h1,h2⟩=>by{rcases h2 with⟨k,h2⟩|h2;·{obtain⟨i,_,hi⟩:=q3 k _ h2;exact .inl ⟨i,hi⟩};·exact .inr ⟨h2,h1⟩};rcases G2 i b hb with⟨k,hg,_⟩|⟨_,_,hf⟩|⟨_,_,hg⟩;·{exact VY (JD b (.inr ⟨k,hg⟩))};·{exact .inl ⟨i,hf⟩};·exact VY (JD b (.inl ((i4 i).2 b hg)))};·{intro hI i _ rows hr;have hr':hp i=some (some rows):=hr;have iz:∃rows,hp i=some (some rows):=⟨rows,hr'⟩;rcases pY i with⟨x,hx,e,e2⟩|⟨tR,x,hx,e,e2⟩|⟨_,_,_,e⟩|⟨oT,n1,n2,e⟩;·{subst e;obtain⟨e8,bN,h3⟩:=i3 x hx;rw[e2,bN]at hr';simp only[Option.some.injEq]at hr';subst hr';have:er x.1=rW x.1:=by{simp only[er];rw[if_pos iz,if_neg (IJ x hx),h.dead x.1 (by rw[mQ x hx];simp),List.nil_append]};rw[this];exact h3.mono Et (fun _ _=>rfl) (fun _ _ h=>h)};·{subst e;rw[e2]at hr';simp only[Option.some.injEq]at hr';obtain⟨k,gQ,ES⟩:=kg x hx rows hr';have:er x.1=G' k:=by{simp only[er];rw[if_pos iz,if_pos (pX x hx)];obtain⟨k',hk'⟩:=ajA (pX x hx);rw[hk',Lo m5 gQ (CB hk')]};rw[this];exact ES.mono Et (fun _ _=>rfl) i1};·{rw[e]at hr';cases hr'};·exfalso;rename_i iN;rcases iN with iN|iN|⟨x,hx,iN⟩;·{exact n1 iN};·{exact n2 iN};·exact oT x hx iN};·{intro i _ hno;simp only[er];rw[if_neg];rintro⟨rows,e⟩;exact hno rows e};·{intro i _;simp only[er];split;·{split;·{cases fT l i with|none=>(exact List.nodup_nil)|some k=>exact nU k};·by_cases tR:∃x∈news,x.1=i;·{obtain⟨x,hx,rfl⟩:=tR;rw[h.dead x.1 (by rw[mQ x hx];simp),List.nil_append];exact(i4 _).1};·rw[(i2 i fun x hx e=>tR ⟨x,hx,e⟩).2,List.append_nil];exact h.nd i};·exact List.nodup_nil};·{intro i j b _ hi hj;have RU:∀{i j k:Id}{b:Nat},b∈G' k→j∉l.map (·.1)→j∉gone→b∈F j→False:=fun{i j k b}hg n1 n2 hf=>by{rcases(JD b (.inr ⟨k,hg⟩)).2 with⟨k2,hk2⟩|hge;·{obtain⟨q,hq,L2⟩:=q3 k2 b hk2;have:=h.dx j q b hf L2;subst this;exact hq.elim n1 n2};·have:=(h.lt j b hf).1;omega};have R3:∀{j:Id}{b:Nat},b∈fr→j∉l.map (·.1)→j∉gone→b∈F j→False:=fun{j b}hg n1 n2 hf=>by{rcases(JD b (.inl hg)).2 with⟨k2,hk2⟩|hge;·{obtain⟨q,hq,L2⟩:=q3 k2 b hk2;have:=h.dx j q b hf L2;subst this;exact hq.elim n1 n2};·have:=(h.lt j b hf).1;omega};rcases G2 i b hi with⟨k,hg,MB,_⟩|⟨n1,n2,hf⟩|⟨_,_,hg⟩<;>rcases G2 j b hj with⟨k',hg',afg,_⟩|⟨TA,TB,hf'⟩|⟨_,_,hg'⟩;·{have:=JC k k' b hg hg';subst this;have e1:=oU m6 (CB MB);have e2:=oU m6 (CB afg);rw[e1]at e2;exact Option.some.inj e2};·{exact(RU (i:=i) hg TA TB hf').elim};·{exact absurd ((i4 j).2 b hg') (UG k b hg)};·{exact(RU (i:=j) hg' n1 n2 hf).elim};·{exact h.dx i j b hf hf'};·{exact(R3 ((i4 j).2 b hg') n1 n2 hf).elim};·{exact absurd ((i4 i).2 b hg) (UG k' b hg')};·{exact(R3 ((i4 i).2 b hg) TA TB hf').elim};·exact i5 i j b hg hg'};·{intro i hi;have hi':hp i=none:=hi;rcases pY i with⟨x,hx,_,e⟩|⟨_,x,hx,_,e⟩|⟨_,_,_,e⟩|⟨oT,_,_,e⟩;·{rw[e]at hi';cases hi'};·{rw[e]at hi';cases hi'};·{rw[e]at hi';cases hi'};·rw[(i2 i oT).1];exact h.dom i (by rw[←e];exact hi')};·{intro hI;exact E1 er hI Et};·rcases List.mem_append.1 hx with hx|hx;·{exact .inl (yB x hx)};·rcases List.mem_append.1 hx with hx|hx;·{exact .inr (live _ (pX x hx))};·obtain⟨i,_,rfl⟩:=List.mem_map.1 hx;exact absurd rfl hne
theorem Di.val{w':World}{I':Nat→Prop}{fr:List Nat}{e:Ending}{r:aa}(h:Di w' I' β fr e r)(hr:BA r=false):∃v,e= .returned v∧R w' I' β fr v r:=by cases r<;>first|exact h|cases hr
theorem aaD {L : Id → Option (Option Rows)} : ∀ (n : Nat) {a : aa} {x}, pk L n a = some x → ∀ i ∈ x.2, ∃ rows, L i = some (some rows) := by
  intro n
  induction n with
  | zero => intro a x h; simp [pk] at h
  | succ n ih =>
    have Ll : ∀ {cs : List aa} {x}, dV (pk L n) cs = some x → ∀ i ∈ x.2, ∃ rows, L i = some (some rows) := fun {cs} => by
      induction cs with
      | nil => intro x h i hi; simp [dV] at h; subst h; cases hi
      | cons c cs yN =>
        intro x h i hi
        simp only [dV, Option.bind_eq_some_iff, Option.map_eq_some_iff] at h
        obtain ⟨y, hy, z, hz, rfl⟩ := h
        rcases List.mem_append.1 hi with hi | hi
        · exact ih hy i hi
        · exact yN hz i hi
    have NM : ∀ {cs : List aa} {x}, gT (pk L n) cs = some x → ∀ i ∈ x.2, ∃ rows, L i = some (some rows) := fun h i hi => by
      unfold gT at h
      split at h
      · simp only [Option.some.injEq] at h; subst h; cases hi
      · exact Ll h i hi
    have foldr : ∀ {cs : Rows} {x}, ec (gT (pk L n)) cs = some x → ∀ i ∈ x.2, ∃ rows, L i = some (some rows) := fun {cs} => by
      induction cs with
      | nil => intro x h i hi; simp [ec] at h; subst h; cases hi
      | cons c cs yN =>
        intro x h i hi
        simp only [ec, Option.bind_eq_some_iff, Option.map_eq_some_iff] at h
        obtain ⟨y, hy, z, hz, rfl⟩ := h
        rcases List.mem_append.1 hi with hi | hi
        · exact NM hy i hi
        · exact yN hz i hi
    have ai5 : ∀ {cs : Rows} {x}, lH (pk L n) cs = some x → ∀ i ∈ x.2, ∃ rows, L i = some (some rows) := fun h i hi => by
      unfold lH at h
      split at h
      · simp only [Option.some.injEq] at h; subst h; cases hi
      · exact foldr h i hi
    intro a x h i hi
    unfold pk at h
    repeat' (first
      | (simp only [reduceCtorEq] at h; done)
      | (simp only [Option.some.injEq] at h; subst h; first | (simp only [List.mem_singleton] at hi; subst hi; exact ⟨_, by assumption⟩) | (cases hi; done))
      | (simp only [Option.map_eq_some_iff] at h; obtain ⟨y, hy, rfl⟩ := h; first | exact NM hy i hi | (rcases List.mem_cons.1 hi with rfl | hi; exact ⟨_, by assumption⟩; first | exact ai5 hy i hi | exact NM hy i hi))
      | split at h)
theorem T1 {L : Id → Option (Option Rows)} {l : List (Id × Id)} : ∀ {r : List (Id × Id)} {x}, hU L l r = some x → ∀ i ∈ x.2, ∃ rows, L i = some (some rows)
  | [], x, h, i, hi => by simp only [hU, Option.some.injEq] at h; subst h; cases hi
  | (o, k) :: r, x, h, i, hi => by
    simp only [hU] at h
    split at h
    · simp only [Option.bind_eq_some_iff, Option.map_eq_some_iff] at h
      obtain ⟨y, hy, br, _, z, hz, rfl⟩ := h
      have aaM : ∀ {a : aa} {x}, gm L (uc l) a = some x → ∀ i ∈ x.2, ∃ rows, L i = some (some rows) := fun h i hi => by
        unfold gm at h
        repeat' (first
          | (simp only [reduceCtorEq] at h; done)
          | (simp only [Option.some.injEq] at h; subst h; cases hi)
          | exact aaD _ h i hi
          | split at h)
      have Ll : ∀ {cs : List aa} {x}, dV (gm L (uc l)) cs = some x → ∀ i ∈ x.2, ∃ rows, L i = some (some rows) := fun {cs} => by
        induction cs with
        | nil => intro x h i hi; simp [dV] at h; subst h; cases hi
        | cons c cs yN =>
          intro x h i hi
          simp only [dV, Option.bind_eq_some_iff, Option.map_eq_some_iff] at h
          obtain ⟨y, hy, z, hz, rfl⟩ := h
          rcases List.mem_append.1 hi with hi | hi
          · exact aaM hy i hi
          · exact yN hz i hi
      have aaT : ∀ {cs : List aa} {x}, k5 L (uc l) cs = some x → ∀ i ∈ x.2, ∃ rows, L i = some (some rows) := fun h i hi => by
        unfold k5 at h
        split at h
        · simp only [Option.some.injEq] at h; subst h; cases hi
        · exact Ll h i hi
      have foldr : ∀ {cs : Rows} {x}, ec (k5 L (uc l)) cs = some x → ∀ i ∈ x.2, ∃ rows, L i = some (some rows) := fun {cs} => by
        induction cs with
        | nil => intro x h i hi; simp [ec] at h; subst h; cases hi
        | cons c cs yN =>
          intro x h i hi
          simp only [ec, Option.bind_eq_some_iff, Option.map_eq_some_iff] at h
          obtain ⟨y, hy, z, hz, rfl⟩ := h
          rcases List.mem_append.1 hi with hi | hi
          · exact aaT hy i hi
          · exact yN hz i hi
      rcases List.mem_append.1 hi with hi | hi
      · unfold ny at hy
        split at hy
        · simp only [Option.some.injEq] at hy; subst hy; cases hi
        · exact foldr hy i hi
      · exact T1 hz i hi
    · cases h
theorem Ij{call:FuncId→List aa→Option (aa×List aa)}{L:Id→Option (Option Rows)}{k:FuncId}{args:List aa}{x:Am}(h:si call L k args=some x):∃obs outs,hU L x.l x.l=some (obs,x.gone)∧call k (.bL obs::args.map (fj x.l))=some (x.r,outs)∧iw (x.l.map fun x=>(x.2,x.1)) x.l outs=some x.back∧(x.l.map (·.1)).Nodup∧(x.l.map (·.2)).Nodup∧(∀y∈x.l,jl y.2=true)∧x.gone.Nodup∧(∀i∈x.gone,i∉x.l.map (·.1)):=by unfold si Ei at h;split at h;·{rename_i obs gone ho;split at h;·{rename_i hc;simp only[Bool.and_eq_true,List.all_eq_true]at hc;obtain⟨⟨⟨⟨c1,c2⟩,c3⟩,gP⟩,DO⟩:=hc;split at h;·{rename_i r outs bW;obtain⟨back,hb,rfl⟩:=Option.map_eq_some_iff.1 h;refine⟨obs,outs,ho,bW,hb,BQ c1,BQ c2,c3,BQ gP,fun i hi hm=> ?_⟩;have:=List.all_eq_true.1 DO i hi;simp only[Bool.not_eq_true',List.contains_eq_mem,decide_eq_false_iff_not]at this;exact this hm};·cases h};·cases h};·cases h
theorem Vy{l:List (Id×Id)}:(l.map fun x=>(x.2,x.1)).map (·.2)=l.map (·.1):=by simp[Function.comp_def]
def J8(E:Env)(w:World)(β:Id→Option Loc)(F:Id→List Nat)(x:Am)(e:Ending)(w':World):Prop:=∃(G G':Id→List Nat)(fr:List Nat)(I':Nat→Prop),(∀k b,b∈G k→∃i,(i∈x.l.map (·.1)∨i∈x.gone)∧b∈F i)∧(Kept w w' fun b=>∃k,b∈G k)∧Di w' I' (fun i=>(fN x.l i).bind β) fr e x.r∧(∀k,(G' k).Nodup)∧(∀i j b,b∈G' i→b∈G' j→i=j)∧fr.Nodup∧(∀k b,b∈G' k→b∉fr)∧(∀b,(b∈fr∨∃k,b∈G' k)→b<w'.heap.size∧((∃k,b∈G k)∨w.heap.size≤b))∧(∀b,I' b→(aK E w F b∨(∃k,b∈G k)∨w.heap.size≤b)∧b<w'.heap.size∧b∉fr∧∀k,b∉G' k)∧(∀y∈x.back,∀br,y.2=some br→∃k,(y.1,k)∈x.l∧dU w' I' β y.1 br (G' k))
theorem ahX(h:aR C E w S a β F){k:FuncId}{call:FuncId→List aa→Option (aa×List aa)}(eI:∀k as r,call k as=some r→Sound C k as r)(L6:C.c6 k=true){args:List aa}{vs:List Value}(ha:aG w (aK E w F) β [] vs args){x:Am}(hx:si call S.h k args=some x):OL C.P k ⟨vs⟩ w (J8 E w β F x):=by obtain⟨obs,outs,ho,bW,hb,m5,m6,hK,Jg,u7⟩:=Ij hx;obtain⟨hl,G,e1,e2,hpre,q3⟩:=ada h ha ho m5 m6 Jg u7;have hs:=(eI _ _ _ bW).2 L6 _ _ hl rfl e1 (by rw[e2];exact m6) (fun y hy=>by have:y.1∈x.l.map (·.2):=by{rw[←e2];exact List.mem_map.2 ⟨y,hy,rfl⟩};obtain⟨z,hz,e⟩:=List.mem_map.1 this;rw[←e];exact hK z hz) w _ _ G vs hpre;have GL:∀e w',Kl w (aK E w F) (fun i=>(fN x.l i).bind β) G (x.r,outs) e w'→J8 E w β F x e w':=fun e w' hr=>by{obtain⟨I',G',fr,q1,cn,_,mo,j5,NS,JA,JB,zm⟩:=hr.ex;refine⟨G,G',fr,I',q3,hr.kept,q1,mo,j5,NS,JA,JB,zm,fun y hy br e=> ?_⟩;obtain⟨k',rows,m1,m2,kL⟩:=(xE hb).2 y hy br e;have Jf:((x.l.map fun x=>(x.2,x.1)).map (·.2)).Nodup:=by{rw[Vy];exact m5};have hm:fN (x.l.map fun x=>(x.2,x.1)) y.1=some k':=oU Jf (List.mem_map.2 ⟨_,m1,rfl⟩);have:=(cn k' rows m2).mq hm (UY Jf kL);refine⟨k',m1,this.mono (fun _ h=>h) (fun _ _=>rfl) fun i lo hlo=> ?_⟩;simp only[Option.bind_eq_some_iff]at hlo;obtain⟨j,hj,i',hi',hlo⟩:=hlo;obtain⟨z,hz,e⟩:=List.mem_map.1 (qb hj);simp only[Prod.mk.injEq]at e;have:=oU m6 hz;rw[e.1,hi']at this;simp only[Option.some.injEq]at this;rw[this,e.2]at hlo;exact hlo};rcases hs with⟨fn,c,k1,k2,cU⟩|⟨v,w',k1,k2⟩;·{exact .inl ⟨fn,c,k1,k2,cU.mono GL⟩};·exact .inr ⟨v,w',k1,GL _ _ k2⟩
theorem akD{l:List (Id×Id)}(m5:(l.map (·.1)).Nodup)(m6:(l.map (·.2)).Nodup){i:Id}{lo:Loc}(h:((fN (l.map fun x=>(x.2,x.1)) i).bind fun i=>(fN l i).bind β)=some lo):β i=some lo:=by simp only[Option.bind_eq_some_iff]at h;obtain⟨j,hj,i',hi',hlo⟩:=h;obtain⟨z,hz,e⟩:=List.mem_map.1 (qb hj);simp only[Prod.mk.injEq]at e;have:=oU m6 hz;rw[e.1,hi']at this;simp only[Option.some.injEq]at this;rw[this,e.2]at hlo;exact hlo
theorem abU{P:Program}{o:Oper}{c:Call}{cF:Operand}(ho:o.op= .call c)(hc:c.callee= .value cF){k:FuncId}{gz hG:List Value}(mR:a.eval cF= .func (.func k) ⟨gz⟩ ⟨hG⟩):(execOp a.eval o).run P w=(callFunc k ⟨gz++c.args.toList.map a.eval++hG⟩).run P w:=by have e2:((⟨gz⟩:Array Value)++c.args.map a.eval++⟨hG⟩:Array Value)=⟨gz++c.args.toList.map a.eval++hG⟩:=by{apply Array.ext';simp};have bN:resolve a.eval c o.type=(pure {target:= .fn (.func k) ⟨hG⟩,args:=⟨gz⟩++c.args.map a.eval}:Sem Deferred):=by{simp[resolve,hc,mR,Deferred.ofValue]};have eM:execOp a.eval o=(do let d←resolve a.eval c o.type;invoke d.target d.args:Sem Next):=by{simp[execOp,ho]};rw[eM,bN,Sem.run_bind,Sem.run_pure,Result.andThen_ok];simp only[invoke,e2]
theorem ade{x:aa}{y:FuncId×List aa×List aa}(h:nC C x=some y):x= .fn (.func y.1) y.2.1 y.2.2∧C.c6 y.1=true:=by unfold nC at h;split at h;·{split at h;·{rename_i hg;simp only[Option.some.injEq]at h;subst h;exact⟨rfl,hg⟩};·cases h};·cases h
theorem akg{L:Id→Option (Option Rows)}{b:Id×Option Rows}(h:zK L b=true):L b.1=some b.2:=by obtain⟨i,v⟩:=b;unfold zK at h;split at h;·{rename_i h1 h2;simp only[Bool.and_eq_true,beq_iff_eq]at h;obtain⟨⟨rfl,rfl⟩,rfl⟩:=h;simp only at h1 h2;rw[h1,h2]};·cases h
theorem VT{h0 h:Id→Option (Option Rows)}:∀{back:List (Id×Option Rows)},(∀b∈back,h b.1=h0 b.1)→(back.map (·.1)).Nodup→bw h (jF h0 back)=bw h back|[],_,_=>rfl|(i,v)::back,ha,nd=>by have ih:=VT (h0:=h0) (h:=h) (back:=back) (fun b hb=>ha b (List.mem_cons_of_mem _ hb)) (List.nodup_cons.1 nd).2;unfold jF at ih⊢;simp only[List.filter_cons];split;·{simp only[bw,ih]};·rename_i hs;rw[ih];have hs:zK h0 (i,v)=true:=by{simpa using hs};funext j;simp only[bw,av];split;·{rename_i e;subst e;rcases fU h back j with⟨x,hx,e1,_⟩|⟨_,e2⟩;·{exact absurd (List.mem_map.2 ⟨x,hx,e1⟩) (List.nodup_cons.1 nd).1};·rw[e2,ha (j,v) (List.mem_cons_self ..)];exact akg hs};·rfl
theorem ahO(bI:qE C.P)(h:aR C E w S a β F){o:Oper}{c:Call}{cF:Operand}(ho:o.op= .call c)(hc:c.callee= .value cF){f:FuncId}{call:FuncId→List aa→Option (aa×List aa)}(eI:∀k as r,call k as=some r→Sound C k as r){y:FuncId×List aa×List aa}(dX:nC C (un true (S.get C cF))=some y){e:bx}(he:qK C f call S o y.1 (y.2.1++(c.args.toList.map fun x=>un true (S.get C x))++y.2.2)=some e)(hd:cE S e)(hn:∀a' w',bG C E (S.app e) a' w'→next a' w'):o.wp C.P a w next Q:=by obtain⟨hfn,L6⟩:=ade dX;have hfo:=h.ee cF;rw[hfn]at hfo;obtain⟨_,gz,hG,mR,h1,h2⟩:=hfo.qX;have hargs:=aG.ofMap h c.args.toList;have hall:aG w (aK E w F) β [] (gz++c.args.toList.map a.eval++hG) (y.2.1++(c.args.toList.map fun x=>un true (S.get C x))++y.2.2):=(h1.append hargs).append h2;unfold qK at he;simp only[Option.bind_eq_some_iff]at he;obtain⟨x,hx,he⟩:=he;split at he;·{cases he};·rename_i hnp;have hnp:BA x.r=false:=by{simpa using hnp};generalize tT:(if eX C f o.dst=true then(if flat x.r=true then dW x.r else .bz)else x.r)=rr at he;split at he;·{rename_i hf;simp only[Option.some.injEq]at he;subst he;have tL:=ahX h eI L6 hall hx;obtain⟨obs,outs,Ss,_,hb,m5,m6,_,Jg,u7⟩:=Ij hx;have hb0:=hb;have Jf:((x.l.map fun x=>(x.2,x.1)).map (·.2)).Nodup:=by{rw[Vy];exact m5};have GL:∀e' w',J8 E w β F x e' w'→∃v,e'= .returned v∧next (a.put o.dst v) w':=fun e' w'⟨G,G',fr,I',q1,cn,cP,mo,j5,NS,JA,JB,zm,aji⟩=>by{obtain⟨v,rfl,hv⟩:=cP.val hnp;refine⟨v,rfl,hn _ _ ?_⟩;obtain⟨pF,A2,p1,p2,p3,kP⟩:∃(pF:Nat→Prop)(A2:List Nat),R w' pF (fun i=>(fN x.l i).bind β) A2 v rr∧(A2.Nodup∧∀b∈A2,b∈fr)∧(∀b,I' b→pF b)∧(∀b,pF b→(aK E w F b∨(∃k,b∈G k)∨w.heap.size≤b)∧b<w'.heap.size∧b∉A2∧∀k,b∉G' k):=by{by_cases hz:eX C f o.dst=true;·{rw[if_pos hz]at tT;by_cases hfl:flat x.r=true;·{rw[if_pos hfl]at tT;subst tT;refine⟨fun b=>I' b∨b∈fr,[],((hv.kG hfl cc).dW (fun _ h=> .inl h) (fun _ h=> .inr h)).up,⟨List.nodup_nil,fun b hb=>by cases hb⟩,fun _ h=> .inl h,fun b hb=> ?_⟩;rcases hb with hb|hb;·{obtain⟨k1,k2,_,eE⟩:=zm b hb;exact⟨k1,k2,by simp,eE⟩};·obtain⟨k1,k2⟩:=JB b (.inl hb);exact⟨k2.elim (fun h=> .inr (.inl h)) (fun h=> .inr (.inr h)),k1,by simp,fun k hk=>JA k b hk hb⟩};·rw[if_neg hfl]at tT;subst tT;exact⟨I',[], .bz,⟨List.nodup_nil,fun b hb=>by cases hb⟩,fun _ h=>h,fun b hb=>⟨(zm b hb).1,(zm b hb).2.1,by simp,(zm b hb).2.2.2⟩⟩};·rw[if_neg hz]at tT;subst tT;exact⟨I',fr,hv,⟨NS,fun _ h=>h⟩,fun _ h=>h,zm⟩};obtain⟨f2,vq,mX⟩:=p1.ajB (NV Jf rr);have IB:f2.Nodup∧∀b∈f2,b∈A2:=by{rcases vq with rfl|rfl;·{exact⟨p2.1,fun _ h=>h⟩};·exact⟨List.nodup_nil,fun b hb=>by cases hb⟩};have afd:R w' pF β f2 v (fj (x.l.map fun x=>(x.2,x.1)) rr):=mX.mono (fun _ h=>h) (fun _ _=>rfl) fun i lo hlo=>akD m5 m6 hlo;have mQ:=Ih hf;obtain⟨β',rW,a1,a2,a3,a4,a5,a6,a7⟩:=Fg (iy o) afd IB.1 (fun z hz=>h.dom _ (mQ z hz));have yB:=h.FE hd;have:=h.adf (a':=a.put o.dst v) (t':=di S.t (put o (imp (iy o) (fj (x.l.map fun x=>(x.2,x.1)) rr)).1 (x.l.map (·.1)) []).ep) m5 m6 u7 (TZ Ss) (T1 Ss) q1 cn mo j5 (fun k b hb hm=>JA k b hb (p2.2 b (IB.2 b hm))) (fun b hb=>JB b (hb.imp (fun hb=>p2.2 b (IB.2 b hb)) id)) (fun b hb=>⟨(kP b hb).1,(kP b hb).2.1,fun hm=>(kP b hb).2.2.1 (IB.2 b hm),(kP b hb).2.2.2⟩) (xE hb).1 (fun z hz br e=>(aji z hz br e).imp fun k hk=>⟨hk.1,hk.2.mono p3 (fun _ _=>rfl) (fun _ _ h=>h)⟩) a1 a2 a4 a5 a6 mQ (fun z hz=>by obtain⟨q,e⟩:=a7 z hz;rw[e];exact yB q) (by rw[uo];exact h.n) (put_defers ..) (fun F' hI yb t=> ?_);·{have e:bw S.h ((imp (iy o) (fj (x.l.map fun x=>(x.2,x.1)) rr)).2++(jF S.h x.back++x.gone.map fun i=>(i,none)))=bw S.h ((imp (iy o) (fj (x.l.map fun x=>(x.2,x.1)) rr)).2++(x.back++x.gone.map fun i=>(i,none))):=by{have g1:∀b∈x.back,bw S.h (x.gone.map fun i=>(i,none)) b.1=S.h b.1:=fun b hb=>by{have hb':b.1∈x.l.map (·.1):=by{rw[←(xE hb0).1];exact List.mem_map.2 ⟨b,hb,rfl⟩};rcases fU S.h (x.gone.map fun i=>(i,none)) b.1 with⟨y,hy,e1,_⟩|⟨_,e2⟩;·{obtain⟨j,hj,rfl⟩:=List.mem_map.1 hy;have e1:j=b.1:=e1;exact absurd hb' (e1▸u7 j hj)};·exact e2};have g2:(x.back.map (·.1)).Nodup:=by{rw[(xE hb0).1];exact m5};rw[z9,z9,z9,z9,VT g1 g2]};have e2:S.app (put o (imp (iy o) (fj (x.l.map fun x=>(x.2,x.1)) rr)).1 (x.l.map (·.1)) ((imp (iy o) (fj (x.l.map fun x=>(x.2,x.1)) rr)).2++(jF S.h x.back++x.gone.map fun i=>(i,none))))=⟨S.n,di S.t (put o (imp (iy o) (fj (x.l.map fun x=>(x.2,x.1)) rr)).1 (x.l.map (·.1)) []).ep,bw S.h ((imp (iy o) (fj (x.l.map fun x=>(x.2,x.1)) rr)).2++(x.back++x.gone.map fun i=>(i,none)))⟩:=by{rw[←e];rfl};rw[e2];exact this};·cases bM:o.dst with|none=>(refine .inl ⟨by simp[Act.put], ?_⟩;simp[put,bM,di])|some d=>have hd':d<a.tmps.size:=by{rw[h.n];simpa[cE,put,bM]using hd};rw[um a d t v hd'];by_cases ht:t=d;·{subst ht;rw[if_pos rfl];refine .inr ?_;have:=a3.mono (w':=w') yb (fun _ _=>rfl) (fun _ _ h=>h);simpa[put,bM,di,av]using this};·rw[if_neg ht];refine .inl ⟨rfl, ?_⟩;simp[put,bM,di,av,ht]};unfold Oper.wp;rw[abU ho hc mR];rcases tL with⟨fn,code,k1,k2,cU⟩|⟨v,w',k1,k2⟩;·{rw[zJ bI k1 k2];simp only[Oper.upon];refine cU.mono fun e' w' hh=> ?_;obtain⟨v,rfl,hr⟩:=GL e' w' hh;exact hr};·rw[k1];obtain⟨v',e,hr⟩:=GL _ w' k2;simp only[Ending.returned.injEq]at e;subst e;exact hr};·cases he
end
end Go.Ab
