import Derived.Test.YtbhpblokoecoaaaAbTake
import Derived.MapKept
namespace Go.Ab
open Go
def ki(e:MapEntry):List aa:=[.val e.key, .val e.val]
section
variable{P:Program}{w:World}{kt et t:TypeId}{kind:TypeDesc}{kv ng z:Value}
theorem run_checkKey{b:Bool}(hk:P.underlying kt=some kind)(hs:K1 kind=true):(Instr.checkKey b 10000 kt kv).run P w= .ok () w:=by show(Instr.checkKey b (9999+1) kt kv).run P w=_;unfold Instr.checkKey;rw[Sem.run_bind,eK (C:={P:=P,cU:=fun _=>none,ext:=fun _=>none,cR:=fun _=>[],eJ:=fun _=>[],live:=fun _ _=>[],gU:=fun _ _=>[]}) hk,Result.andThen_ok];cases kind<;>first|(cases hs;done)|rfl
theorem Nu:∀{es:List MapEntry}{r:Option Value}(i:Nat),oD kind kv (es.map ki)=some r→∃j,Instr.findNow kind kv es i=some (r.map fun v=>(j,v))|[],r,i,h=>by{simp only[List.map_nil,oD,Option.some.injEq]at h;subst h;exact⟨0,rfl⟩}|e::es,r,i,h=>by simp only[List.map_cons,ki,oD]at h;unfold Instr.findNow;split at h;·{rename_i hs;simp only[Option.some.injEq]at h;subst h;exact⟨i,by rw[hs];rfl⟩};·{rename_i hs;obtain⟨j,hj⟩:=Nu (i+1) h;exact⟨j,by rw[hs];exact hj⟩};·cases h
theorem Mo:∀{a b:ByteArray},(a==b)=true→a=b|⟨x⟩,⟨y⟩,h=>by have h':(x==y)=true:=h;rw[eq_of_beq h']
theorem Mp(a:ByteArray):(a==a)=true:=by cases a with|mk x=>show(x==x)=true;simp
theorem RB{b:Nat}{es:Array MapEntry}{clock:Nat}(hb:w.heap[b]? =some (.map es clock)):(getObj b).run P w= .ok (.map es clock) w:=by simp[getObj,Sem.run,hb]
theorem RF{b:Nat}{es:Array MapEntry}{clock:Nat}(o:Obj)(hb:w.heap[b]? =some (.map es clock)):(setObj b o).run P w= .ok () (iG w b o):=by simp[setObj,Sem.run,hb,iG]
theorem afc{k e:Value}(h:Instr.sameNow kind k e=some true):Instr.sameBits 10000 e k=true:=by unfold Instr.sameNow at h;split at h;·{split at h;·{rename_i a k' b hk;simp only[Option.some.injEq]at h;show(_&&_)=true;have:=eq_of_beq h;subst hk this;simp};·cases h};·{simp only[Option.some.injEq]at h;have:=Mo h;subst this;exact Mp _};·{simp only[Option.some.injEq]at h;have:=eq_of_beq h;subst this;show(_==_)=true;simp};·cases h
theorem Q9:∀{es:List MapEntry}{bZ:Rows}(i:Nat),xw kind kv ng (es.map ki)=some bZ→(∃j v,∃hj:j<es.length,Instr.findNow kind kv es i=some (some (i+j,v))∧Instr.sameNow kind kv es[j].key=some true∧bZ=(es.modify j fun e=>{e with key:=kv,val:=ng}).map ki)∨(Instr.findNow kind kv es i=some none∧bZ=es.map ki++[[.val kv, .val ng]])|[],bZ,i,h=>by{simp only[List.map_nil,xw,Option.some.injEq]at h;subst h;exact .inr ⟨rfl,rfl⟩}|e::es,bZ,i,h=>by simp only[List.map_cons,ki,xw]at h;unfold Instr.findNow;split at h;·{rename_i hs;simp only[Option.some.injEq]at h;subst h;exact .inl ⟨0,e.val,by simp,by rw[hs];rfl,hs,by simp[ki]⟩};·{rename_i hs;obtain⟨y,hy,rfl⟩:=Option.map_eq_some_iff.1 h;rw[hs];rcases Q9 (i+1) hy with⟨j,v,hj,h1,h2,rfl⟩|⟨h1,rfl⟩;·{refine .inl ⟨j+1,v,by simpa using hj, ?_,by simpa using h2,by simp[ki]⟩;rw[show i+(j+1)=i+1+j by omega];exact h1};·exact .inr ⟨h1,by simp[ki]⟩};·cases h
end
section
variable{C:aV}{E:Env}{w:World}{S:an}{a:Act}{β:Id→Option Loc}{F:Id→List Nat}
variable{next:Act→World→Prop}{Q:Exit→Act→World→Prop}
theorem afd{t:TypeId}{z:Value}(h:KW C t=some z):(∀w:World,(zeroValue t).run C.P w= .ok z w)∧er z=true:=by unfold KW at h;split at h;·{rename_i v hv;split at h;·{rename_i hs;simp only[Option.some.injEq]at h;subst h;refine⟨fun w=> ?_,hs⟩;simp only[Option.bind_eq_some_iff]at hv;obtain⟨i,hi,hz⟩:=hv;simp[zeroValue,typeInfo,hi,hz]};·cases h};·cases h
theorem PS{t:TypeId}{kind:TypeDesc}{z:Value}(h:zN C t=some (kind,z)):∃kt et,C.P.underlying t=some (.map kt et)∧C.P.underlying kt=some kind∧K1 kind=true∧(∀w:World,(zeroValue et).run C.P w= .ok z w)∧er z=true:=by unfold zN at h;split at h;·{rename_i kt et hu;split at h;·{rename_i kind' z' hk hz;split at h;·{rename_i hs;simp only[Option.some.injEq,Prod.mk.injEq]at h;obtain⟨rfl,rfl⟩:=h;obtain⟨h1,h2⟩:=afd hz;exact⟨kt,et,hu,hk,hs,h1,h2⟩};·cases h};·cases h};·cases h
theorem Yd{w:World}{b:Nat}{es es':Array MapEntry}{c c':Nat}(h:w.heap[b]? =some (.map es c))(x:Addr):(iG w b (.map es' c')).frozen? x=w.frozen? x:=by have hb:=kF h;unfold World.frozen? ;rw[AW hb];by_cases hx:x.block=b;·{rw[if_pos hx,hx,h]};·rw[if_neg hx]
theorem adi(h:aY C E w S a β F){o:Oper}{t:TypeId}{r:Option Operand}(ho:o.op= .makeMap t r){e:bx}(he:sx C S o t r=some e)(hd:cI S e)(hn:∀a' w',bP C E (S.app e) a' w'→next a' w'):o.wp C.P a w next Q:=by unfold sx at he;split at he;·{rename_i d hm bS;split at he;·{rename_i hc;simp only[Bool.and_eq_true,Option.isNone_iff_eq_none]at hc;obtain⟨rfl,hf⟩:=hc;simp only[Option.some.injEq]at he;subst he;have hfr:S.h [d]=none:=hf;have hd':d<S.n:=by{simpa[cI,put,bS]using hd};refine jN (v:= .map (some w.heap.size)) (w':=w.alloc (.map #[] 0)) ?_ (hn _ _ ?_);·{simp only[execOp,ho];refine m4 ?_;rfl};·have e1:S.app (put o (.mr [d]) [] [([d],some [])])=⟨S.n,aE S.t d (.mr [d]),aE S.h [d] (some (some []))⟩:=by{simp[an.app,put,bS,dO,bL]};rw[e1];have hold:∀b,b<w.heap.size→(w.alloc (.map #[] 0)).heap[b]? =w.heap[b]? :=fun b hb=>heap_alloc_old _ _ _ hb;have hnew:(w.alloc (.map #[] 0)).heap[w.heap.size]? =some (.map #[] 0):=heap_alloc_new _ _;refine h.Gi bS (kill:=[d]) (l:= .map w.heap.size) (bZ:=[]) (G:=[w.heap.size]) hfr (.inl rfl) (by simp[aE]) (fun i hi _=>by simp[aE,hi]) (fun hk=>absurd rfl hk) (by simp) rfl rfl (fun x=> ?_) (fun b hb _=>hold b hb) (vJ hold) (by simp) (fun b hb=> ?_) (fun I' β' _ _ hb=> ?_) (fun I' β' hb=> .mr hb) hd';·{by_cases hx:x.block=w.heap.size;·{have e2:w.heap[x.block]? =none:=by{rw[hx];simp};simp only[World.frozen?,hx,hnew];simp};·rw[World.frozen?_alloc_old _ _ _ hx]};·{obtain rfl:=List.mem_singleton.1 hb;exact .inr ⟨Nat.le_refl _,by simp⟩};·exact .inr (.inl ⟨_,hb,rfl, #[],0,hnew,rfl,fun e he=>by simp at he⟩)};·cases he};·cases he
theorem abL(h:aY C E w S a β F){x:aa}{v:Value}{rows:Rows}{ids:List Id}(hx:R w (aT E w F) β [] v x)(hr:uQ S.h x=some (rows,ids)):(v= .map none∧rows=[])∨∃b,v= .map (some b)∧mz w b rows:=by unfold uQ at hr;split at hr;·{rename_i id;split at hr;·{rename_i bZ hid;simp only[Option.some.injEq,Prod.mk.injEq]at hr;obtain⟨rfl,rfl⟩:=hr;obtain⟨_,b,hb,rfl⟩:=hx.Dm;rcases h.obj id _ hid with⟨h1,_⟩|⟨b2,h1,_,hm⟩|⟨_,_,_,_,_,_,h1,_⟩;·{rw[h1]at hb;cases hb};·{rw[h1]at hb;cases hb;exact .inr ⟨_,rfl,hm⟩};·rw[h1]at hb;cases hb};·cases hr};·{simp only[Option.some.injEq,Prod.mk.injEq]at hr;obtain⟨rfl,rfl⟩:=hr;obtain⟨_,b,rfl,_,hm⟩:=hx.aa6;exact .inr ⟨b,rfl,hm⟩};·{simp only[Option.some.injEq,Prod.mk.injEq]at hr;obtain⟨rfl,rfl⟩:=hr;obtain⟨_,rfl⟩:=hx.gl;exact .inl ⟨rfl,rfl⟩};·cases hr
theorem Nv{kind:TypeDesc}{kv v:Value}:∀{es:List MapEntry},(∀e∈es,er e.key=true∧er e.val=true)→oD kind kv (es.map ki)=some (some v)→er v=true|[],_,h=>by{simp[oD]at h}|e::es,hs,h=>by simp only[List.map_cons,ki,oD]at h;split at h;·{simp only[Option.some.injEq]at h;subst h;exact(hs e (List.mem_cons_self ..)).2};·{exact Nv (fun e he=>hs e (List.mem_cons_of_mem _ he)) h};·cases h
theorem adf(h:aY C E w S a β F){o:Oper}{t:TypeId}{x k:Operand}{ok:Bool}(ho:o.op= .lookup t x k ok){e:bx}(he:nH C S o t (un true (S.get C x)) (un true (S.get C k)) ok=some e)(hd:cI S e)(hn:∀a' w',bP C E (S.app e) a' w'→next a' w'):o.wp C.P a w next Q:=by have hx:=h.dS x;have hk:=h.dS k;generalize un true (S.get C x)=xv at*;generalize un true (S.get C k)=kx at*;have hex:execOp a.eval o=(do pure (Next.value (←Instr.lookup t (a.eval x) (a.eval k) ok))):=by{simp[execOp,ho]};unfold nH at he;split at he;·{rename_i kind z rows ids kv hm hr;obtain⟨r,hf,rfl⟩:=Option.map_eq_some_iff.1 he;obtain⟨kt,et,hu,wN,hs,hz,hzs⟩:=PS hm;obtain⟨_,hkv⟩:=hk.gl;have hK:∀es:Array MapEntry,oD kind kv (es.toList.map ki)=some r→(do Instr.checkKey es.isEmpty 10000 kt (a.eval k)let y←Instr.findKey kt (a.eval k) es.toList match y with|some (_,v)=>do let x←pure (v,true)pure (if ok=true then Value.tuple #[x.1,Value.bool x.2]else x.1)|none=>do let z←zeroValue et let x←pure (z,false)pure (if ok=true then Value.tuple #[x.1,Value.bool x.2]else x.1):Sem Value).run C.P w= .ok (if ok then .tuple #[r.getD z, .bool r.isSome]else r.getD z) w:=by{intro es hf;obtain⟨j,hj⟩:=Nu 0 hf;rw[Sem.run_bind,run_checkKey wN hs,Result.andThen_ok];have CA:(Instr.findKey kt (a.eval k) es.toList).run C.P w= .ok (r.map fun v=>(j,v)) w:=by{unfold Instr.findKey;rw[Sem.run_bind,eK wN,Result.andThen_ok,hkv,hj];rfl};rw[Sem.run_bind,CA,Result.andThen_ok];cases r with|some v=>(rfl)|none=>simp only[Option.map_none,Option.getD_none,Option.isSome_none];rw[Sem.run_bind,hz w,Result.andThen_ok];rfl};have hrun:(Instr.lookup t (a.eval x) (a.eval k) ok).run C.P w= .ok (if ok then .tuple #[r.getD z, .bool r.isSome]else r.getD z) w∧er (r.getD z)=true:=by{unfold Instr.lookup;rw[Sem.run_bind,eK hu,Result.andThen_ok];rcases abL h hx hr with⟨hv,rfl⟩|⟨b,hv,es,clock,hb,rfl,hsc⟩;·{refine⟨?_, ?_⟩;·{rw[hv];exact hK #[] hf};·simp only[oD,Option.some.injEq]at hf;subst hf;exact hzs};·refine⟨?_, ?_⟩;·{rw[hv];simp only;rw[Sem.run_bind,RB hb,Result.andThen_ok];exact hK es hf};·cases r with|none=>(exact hzs)|some v=>exact Nv hsc hf};obtain⟨hrun,O1⟩:=hrun;refine fQ h hd hex hrun ?_ hn;cases ok with|false=>(exact .val O1)|true=>exact .b9 (.cons (f1:=[]) (f2:=[]) (.val O1) (.cons (f1:=[]) (f2:=[]) (.val rfl) .nil))};·cases he
theorem Qt (h : aY C E w S a β F) {o : Oper} {t : TypeId} {x k v : Operand} (ho : o.op = .mapUpdate t x k v ∨ o.op = .insert t x k v) {e : bx}
    (he : pQ C S o t (un true (S.get C x)) (un true (S.get C k)) (un true (S.get C v)) = some e) (hd : cI S e) (hn : ∀ a' w', bP C E (S.app e) a' w' → next a' w') : o.wp C.P a w next Q := by
  have hx := h.dS x
  have hk := h.dS k
  have hv := h.dS v
  generalize un true (S.get C x) = xv at *
  generalize un true (S.get C k) = kx at *
  generalize un true (S.get C v) = vx at *
  have hex : execOp a.eval o = (do Instr.mapUpdate t (a.eval x) (a.eval k) (a.eval v); pure Next.skip) := by rcases ho with ho | ho <;> simp [execOp, ho]
  unfold pQ at he
  split at he
  · rename_i kind z id kv ng hm
    split at he
    · rename_i rows hid
      split at he
      · rename_i hc
        simp only [Bool.and_eq_true, Option.isNone_iff_eq_none] at hc
        obtain ⟨⟨ep, O6⟩, bS⟩ := hc
        obtain ⟨bZ, hp, rfl⟩ := Option.map_eq_some_iff.1 he
        obtain ⟨kt, et, hu, wN, hs, _, _⟩ := PS hm
        obtain ⟨_, hkv⟩ := hk.gl
        obtain ⟨_, aaL⟩ := hv.gl
        obtain ⟨_, b, bF, wV⟩ := hx.Dm
        have JG := h.obj id rows hid
        obtain ⟨hF, es, clock, hb, rfl, hsc⟩ : F id = [b] ∧ mz w b rows := by
          rcases JG with ⟨h1, _⟩ | ⟨b2, h1, h2, hm⟩ | ⟨_, _, _, _, _, _, h1, _⟩
          · rw [h1] at bF; cases bF
          · rw [h1] at bF; cases bF; exact ⟨h2, hm⟩
          · rw [h1] at bF; cases bF
        have Cv := kF hb
        have key : ∃ es' : Array MapEntry, ∃ c' : Nat, (Instr.mapUpdate t (a.eval x) (a.eval k) (a.eval v)).run C.P w = .ok () (iG w b (.map es' c')) ∧ bZ = es'.toList.map ki ∧ ∀ e ∈ es'.toList, er e.key = true ∧ er e.val = true := by
          have pre : ∀ {r : Option (Nat × Value)}, Instr.findNow kind kv es.toList 0 = some r → (Instr.mapUpdate t (a.eval x) (a.eval k) (a.eval v)).run C.P w = (match r with
              | some (i, _) => (do
                let key ← Instr.keyThatStays (((es[i]?).map MapEntry.key).getD kv) kv
                setObj b (.map (es.modify i fun e => { e with key, val := ng }) clock) : Sem Unit)
              | none => setObj b (.map (es.push { key := kv, val := ng, born := clock }) (clock + 1))).run C.P w := by
            intro r hr
            unfold Instr.mapUpdate
            rw [Sem.run_bind, eK hu, Result.andThen_ok]
            simp only [wV, hkv, aaL]
            rw [Sem.run_bind, RB hb, Result.andThen_ok]
            simp only
            rw [Sem.run_bind, run_checkKey wN hs, Result.andThen_ok, Sem.run_bind]
            have CA : (Instr.findKey kt kv es.toList).run C.P w = .ok r w := by
              unfold Instr.findKey
              rw [Sem.run_bind, eK wN, Result.andThen_ok, hr]
              rfl
            rw [CA, Result.andThen_ok]
            cases r with
            | none => rfl
            | some y => rfl
          rcases Q9 (kind := kind) (kv := kv) (ng := ng) 0 hp with ⟨j, v0, hj, h1, h2, rfl⟩ | ⟨h1, rfl⟩
          · have hj' : j < es.size := by simpa using hj
            refine ⟨es.modify j fun e => { e with key := kv, val := ng }, clock, ?_, by simp [Array.toList_modify], fun e he => ?_⟩
            · rw [pre h1]
              simp only [Nat.zero_add]
              have e1 : ((es[j]?).map MapEntry.key).getD kv = es.toList[j].key := by simp [hj']
              rw [e1, Sem.run_bind]
              have e2 : (Instr.keyThatStays es.toList[j].key kv).run C.P w = .ok kv w := by
                unfold Instr.keyThatStays
                rw [if_pos (afc h2)]; rfl
              rw [e2, Result.andThen_ok, RF _ hb]
            · rw [Array.toList_modify] at he
              obtain ⟨i, hi, rfl⟩ := List.getElem_of_mem he
              rw [List.getElem_modify]
              split
              · exact ⟨ep, O6⟩
              · exact hsc _ (List.getElem_mem _)
          · refine ⟨es.push { key := kv, val := ng, born := clock }, clock + 1, ?_, by simp [ki], fun e he => ?_⟩
            · rw [pre h1]
              simp only
              rw [RF _ hb]
            · simp only [Array.toList_push, List.mem_append, List.mem_singleton] at he
              rcases he with he | rfl
              · exact hsc e he
              · exact ⟨ep, O6⟩
        obtain ⟨es', c', hrun, rfl, aay⟩ := key
        have k6 : ∀ k, (iG w b (.map es' c')).heap[k]? = if k = b then some (.map es' c') else w.heap[k]? := AW Cv
        refine Ln (w' := iG w b (.map es' c')) (by rw [hex]; exact RH hrun) (hn _ _ ⟨β, F, ?_⟩)
        have e1 : S.app (put o .bX [id] [(id, some (es'.toList.map ki))]) = ⟨S.n, S.t, aE S.h id (some (some (es'.toList.map ki)))⟩ := by simp [an.app, put, bS, dO, bL]
        have e2 : a.put o.dst undef = a := by rw [bS]; rfl
        rw [e1, e2]
        refine h.step (· = id) h.n (by simp [iG]) rfl rfl (fun x => Yd hb x) (fun bb _ eS => ?_) (fun _ _ h => h) (fun i bb eS => .inl ⟨i, eS⟩) (fun i hi => ⟨rfl, by simp [aE, hi]⟩) (fun hI i hi fJ p6 => ?_) (fun i hi hno => ?_) (fun i _ => h.nd i) (fun i j bb _ h1 h2 => h.ej i j bb h1 h2) (fun i hi => ?_) (fun _ t => .inl ⟨rfl, rfl⟩) (hdf := rfl) (fk := ?_)
        · rw [k6, if_neg]
          intro e; subst e
          exact eS id rfl (by rw [hF]; exact List.mem_singleton.2 rfl)
        · subst hi
          simp only [aE, if_true, Option.some.injEq] at p6
          subst p6
          exact .inr (.inl ⟨b, bF, hF, es', c', by rw [k6, if_pos rfl], rfl, aay⟩)
        · subst hi
          exact absurd (by simp [aE]) (hno (es'.toList.map ki))
        · refine h.dom i ?_
          by_cases OA : i = id
          · subst OA; simp [aE] at hi
          · simpa [aE, OA] using hi
        · intro bb n hB
          obtain ⟨c2, e2, gY, hn2⟩ := hB
          refine ⟨c2, e2, ?_, hn2⟩
          rw [k6, if_neg]
          · exact gY
          · intro e; subst e; rw [hb] at gY; cases gY
      · cases he
    · cases he
  · cases he
end
end Go.Ab
