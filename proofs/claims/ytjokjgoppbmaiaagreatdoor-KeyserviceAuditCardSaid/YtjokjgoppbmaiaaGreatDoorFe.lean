/-
  The evaluator: what it computes is so. The evaluator at a region that draws its order: the check of the order. The evaluator at one operation and at a region in the text's order. One operation of a region that draws its order: what the evaluator says of it is so. The evaluator is sound. Facts: a call that is known at the empty heap is known at every heap. Facts as oracles of the evaluator. Tables of types and functions, each entry with its proof; facts that are computed.
-/
import Derived.Test.YtjokjgoppbmaiaaGreatDoorFd
namespace Go.Vm
noncomputable def dstOk (n:Nat) (o:Oper):Bool:=
 match o.dst with
 | some d=>Nat.blt d n
 | none=>true
theorem dstOk_spec {n:Nat} {o:Oper} (h:dstOk n o=true):∀ t,o.dst=some t→t < n:=fun t ht=>by
 simp only [dstOk,ht] at h
 exact Nat.le_of_ble_eq_true h
abbrev CallF:=FuncId→List PV→Heap→Option (PV×Heap)
noncomputable def evOps (E:Env) (call:CallF) (own:Tmp→Bool) (n:Nat) (all l:List Oper):Tr→Heap→Option (Tr×Heap):=
 List.rec (motive:=fun _=>Tr→Heap→Option (Tr×Heap)) (fun t H=>some (t,H))
  (fun o _ ih t H => match dstOk n o with
    | false=>none
    | true => match wantedA all (tget t) o with
      | some true => match evOp E call own (tget t) o H with
        | some (p,H')=>ih (setT t o.dst p) H'
        | none=>none
      | some false=>ih (setT t o.dst unset) H
      | none=>none) l
noncomputable def clsO (E:Env) (own:Tmp→Bool) (o:Oper):Cls:=
 match o.op with
 | .alloc _=> .al
 | .box _ _=> .al
 | .store _ _ _=> .st
 | .mapUpdate _ _ _ _=> .st
 | .makeMap _ _=> .ef
 | .makeSlice _ _ _=> .tk
 | .buildSlice _ _ _=>if own (o.dst.getD 0) then .tk else .sc
 | .load _ _=> .ld
 | .lookup _ _ _ _=> .qu
 | .call { callee := .builtin b, .. } => match b with
   | .append => match own (o.dst.getD 0 + 5000) with
     | true=> .tk
     | false=> .ef
   | .len=> .qu
   | .max=> .sc
   | .min=> .sc
   | _=> .ef
 | .call { callee := .value (.func k), .. } => match E.eff k with
   | true => match own (o.dst.getD 0 + 5000) with
     | true=> .tk
     | false => match own (o.dst.getD 0 + 6000) with
       | true=> .st
       | false=> .ef
   | false=> .qu
 | .call _=> .qu
 | _=> .sc
noncomputable def maskOf (acc:List Nat) (o:Oper):Nat:=
 o.after.toList.foldl (fun s e=>match Region.binds .any e with | true=>s ||| (2 ^ e.on ||| (nth acc e.on).getD 0) | false=>s) 0
noncomputable def masks:List Oper→List Nat→List Nat
 | [],acc=>acc
 | o :: r,acc=>masks r (acc ++ [maskOf acc o])
noncomputable def bef (ms:List Nat) (l i:Nat):Bool:=((nth ms i).getD 0).testBit l
noncomputable def clsI (E:Env) (own:Tmp→Bool) (ops:Array Oper) (i:Nat):Cls:=
 match nth ops.toList i with
 | some o=>clsO E own o
 | none=> .sc
noncomputable def alL (E:Env) (own:Tmp→Bool):List Oper→Nat→List Nat
 | [],_=>[]
 | o :: r, i => match clsO E own o with
   | .al=>i :: alL E own r (i+1)
   | _=>alL E own r (i+1)
noncomputable def stL (E:Env) (own:Tmp→Bool):List Oper→Nat→List Nat
 | [],_=>[]
 | o :: r, i => match clsO E own o with
   | .st=>i :: stL E own r (i+1)
   | _=>stL E own r (i+1)
noncomputable def tgtO (E:Env) (N:Nat) (tm:TM) (o:Oper):Nat:=
 match o.op with
 | .load _ _=>N
 | .store _ a _ => match evalO E tm a with
   | .ptr id _ _ _=>id
   | _=>0
 | .mapUpdate _ m _ _ => match evalO E tm m with
   | .map id=>id
   | _=>0
 | _=>0
noncomputable def tgtI (E:Env) (N:Nat) (tm:TM) (ops:Array Oper) (i:Nat):Nat:=
 match nth ops.toList i with
 | some o=>tgtO E N tm o
 | none=>0
noncomputable def mskI (n0:Nat) (ms al:List Nat) (i:Nat):List Nat:=(al.filter fun k=> !bef ms k i).map (n0+ ·)
noncomputable def freeB (ops:Array Oper) (ms:List Nat) (x y:Oper) (cx cy:Cls) (l i:Nat):Bool:=
 bef ms l i || (perm cx cy && (x.apart ops y && !bef ms i l))
noncomputable def mskS (n0:Nat) (ms al st:List Nat) (tg:Nat→Nat) (i:Nat):List Nat:=
 mskI n0 ms al i ++ (st.filter fun k=> !Nat.beq k i && (!bef ms k i && !bef ms i k)).map tg
noncomputable def freeL (E:Env) (own:Tmp→Bool) (ops:Array Oper) (ms:List Nat) (y:Oper) (i:Nat):List Oper→Nat→Bool
 | [],_=>true
 | x :: r, l => match Nat.blt l i with
   | true=>freeB ops ms x y (clsO E own x) (clsO E own y) l i && freeL E own ops ms y i r (l+1)
   | false=>true
noncomputable def freeA (E:Env) (own:Tmp→Bool) (ops:Array Oper) (ms:List Nat):List Oper→Nat→Bool
 | [],_=>true
 | y :: r,i=>freeL E own ops ms y i ops.toList 0 && freeA E own ops ms r (i+1)
noncomputable def backA:List Oper→Nat→Bool
 | [],_=>true
 | o :: r,i=>o.after.toList.all (fun e=> !Region.binds .any e || Nat.blt e.on i) && backA r (i+1)
noncomputable def seenO (E:Env) (tm:TM) (o:Oper) (s:Nat):Bool:=
 match o.op with
 | .load _ a => match evalO E tm a with
   | .ptr id _ _ _=>Nat.blt id s
   | _=>true
 | _=>true
noncomputable def evHp (E:Env) (call:CallF) (own:Tmp→Bool) (n0:Nat) (msk:List Nat) (tg:Option Nat) (t:Tr) (o:Oper) (i:Nat) (H:Heap):Option (PV×Heap):=
 match clsO E own o with
 | .sc => match aOp E (own (o.dst.getD 0)) (evalO E (tget t)) o.op H with
   | some (p,_)=>some (p,H)
   | none=>none
 | .qu => match o.op with
   | .call { callee := .value f, args, .. } => match evalO E (tget t) f with
     | .fn k caps => match E.eff k with
       | true=>none
       | false => match call k (args.toList.map (evalO E (tget t)) ++ caps) (maskH msk H) with
         | some (p,_)=>some (p,H)
         | none=>none
     | _=>none
   | _ => match aOp E (own (o.dst.getD 0)) (evalO E (tget t)) o.op (maskH msk H) with
     | some (p,_)=>some (p,H)
     | none=>none
 | .al => match nth H.bx (n0 + i) with
   | some .dead => match o.op with
     | .alloc e => match E.T e with
       | some ei=>if ei.zero.cells.length=ei.size∧0 < ei.size then some (.ptr (n0+i) ei.size 0 0,setB H (n0+i) (.cells ei.size [ei.zero.cells])) else none
       | none=>none
     | .box _ x => if 0 < (evalO E (tget t) x).cells.length then
         some (.ptr (n0+i) (evalO E (tget t) x).cells.length 0 0,setB H (n0+i) (.cells (evalO E (tget t) x).cells.length [(evalO E (tget t) x).cells])) else none
     | _=>none
   | _=>none
 | .st => match aOp E (own (o.dst.getD 0)) (evalO E (tget t)) o.op (maskH msk H) with
   | some (p, M) => match nth M.bx (tgtO E 0 (tget t) o) with
     | some b => match tg with
       | some s => match Nat.beq s (tgtO E 0 (tget t) o) && !msk.any (Nat.beq s) with
         | true=>some (p,setB H s b)
         | false=>none
       | none=>some (p,setB H (tgtO E 0 (tget t) o) b)
     | none=>none
   | none=>none
 | .ld => match aOp E (own (o.dst.getD 0)) (evalO E (tget t)) o.op (maskH msk H) with
   | some (p, _) => match tg with
     | some s => match seenO E (tget t) o s with
       | true=>some (p,H)
       | false=>none
     | none=>some (p,H)
   | none=>none
 | .tk => match evOp E call own (tget t) o { maskH msk H with ro := H.bx.length } with
   | some (p, M) => match Nat.ble H.bx.length M.bx.length with
     | true=>some (p,growH H M)
     | false=>none
   | none=>none
 | .ef => match evOp E call own (tget t) o (maskH msk H) with
   | some (p, M) => match Nat.ble H.bx.length M.bx.length with
     | true=>some (p,mergeH msk H M)
     | false=>none
   | none=>none
noncomputable def evDrawL (E:Env) (call:CallF) (own:Tmp→Bool) (n n0:Nat) (mk:Nat→List Nat) (tg:Nat→Option Nat) (all:List Oper):List Oper→Nat→Tr→Heap→Option (Tr×Heap)
 | [],_,t,H=>some (t,H)
 | o :: r, i, t, H => match dstOk n o with
   | false=>none
   | true => match wantedA all (tget t) o with
     | some true => match evHp E call own n0 (mk i) (tg i) t o i H with
       | some (p,H')=>evDrawL E call own n n0 mk tg all r (i+1) (setT t o.dst p) H'
       | none=>none
     | some false=>evDrawL E call own n n0 mk tg all r (i+1) (setT t o.dst unset) H
     | none=>none
noncomputable def roomL (E:Env) (own:Tmp→Bool) (ops:Array Oper):Nat:=match alL E own ops.toList 0 with | []=>0 | _=>ops.size
noncomputable def evDraw (E:Env) (call:CallF) (own:Tmp→Bool) (n:Nat) (ops:Array Oper) (t:Tr) (H:Heap):Option (Tr×Heap):=
 match backA ops.toList 0 && freeA E own ops (masks ops.toList []) ops.toList 0 with
 | true => match evDrawL E call own n H.bx.length (mskI H.bx.length (masks ops.toList []) (alL E own ops.toList 0)) (fun _ => none) ops.toList ops.toList 0 t (extH H (roomL E own ops)) with
   | some (t1, _) => match (stL E own ops.toList 0).all fun k => Nat.ble H.ro (tgtI E (H.bx.length + roomL E own ops) (tget t1) ops k) with
     | true => evDrawL E call own n H.bx.length (mskS H.bx.length (masks ops.toList []) (alL E own ops.toList 0) (stL E own ops.toList 0) (tgtI E (H.bx.length + roomL E own ops) (tget t1) ops))
         (fun i=>some (tgtI E (H.bx.length+roomL E own ops) (tget t1) ops i)) ops.toList ops.toList 0 t (extH H (roomL E own ops))
     | false=>none
   | none=>none
 | false=>none
noncomputable def evLoop (body:Tr→Heap→Option (Ex×Tr×Heap)) (k:Nat):Tr→Heap→Option (Ex×Tr×Heap):=
 Nat.rec (motive:=fun _=>Tr→Heap→Option (Ex×Tr×Heap)) (fun _ _=>none)
  (fun _ ih t H => match body t H with
    | some (.normal,t',H')=>ih t' H'
    | r=>r) k
noncomputable def evCode (E:Env) (call:CallF) (own:Tmp→Bool) (n fuel:Nat) (c:Code):Tr→Heap→Option (Ex×Tr×Heap):=
 Code.rec (motive:=fun _=>Tr→Heap→Option (Ex×Tr×Heap))
  (fun t H=>some (.normal,t,H))
  (fun _ ops draw t H => match draw with
    | false => match evOps E call own n ops.toList ops.toList t H with
      | some (t',H')=>some (.normal,t',H')
      | none=>none
    | true => match evDraw E call own n ops t H with
      | some (t',H')=>some (.normal,t',H')
      | none=>none)
  (fun _ _ ia ib t H => match ia t H with
    | some (.normal,t',H')=>ib t' H'
    | r=>r)
  (fun x _ _ ia ib t H => match evalO E (tget t) x with
    | .bool true=>ia t H
    | .bool false=>ib t H
    | _=>none)
  (fun i _ ib t H => match ib t H with
    | some (.exit j,t',H')=>if j=i then some (.normal,t',H') else some (.exit j,t',H')
    | r=>r)
  (fun _ ib t H=>evLoop ib fuel t H)
  (fun _ _ _ _ _ _ _ _=>none)
  (fun i t H=>some (.exit i,t,H))
  (fun _ _ _ _=>none)
  (fun _ t H=>some (.normal,t,H))
  (fun _ _ _=>none)
  (fun t H=>some (.ret,t,H))
  (fun _ _ _=>none) c
noncomputable def evCall (E:Env) (call:CallF) (fuel:Nat) (f:FuncId) (args:List PV) (H:Heap):Option (PV×Heap):=
 match E.F f with
 | some fn => match fn.body with
   | some c => match Nat.blt args.length 3000 with
     | true => match E.eff f with
       | true => match evCode E call (E.own f) fn.ntmps fuel c (tree0 args 0 .leaf) H with
         | some (ex, t, H') => match ex with
           | .exit _=>none
           | _ => match resA E (tget t) H' fn.results.toList with
             | some vs=>some (one vs,H')
             | none=>none
         | none=>none
       | false => match evCode E call (E.own f) fn.ntmps fuel c (tree0 (args.map argV) 0 .leaf) (inner H) with
         | some (ex, t, H') => match ex with
           | .exit _=>none
           | _ => match resA E (tget t) H' fn.results.toList with
             | some vs => match frz3 H.bx.length H' (one vs) with
               | some v=>some (v,H)
               | none=>none
             | none=>none
         | none=>none
     | false=>none
   | none=>none
 | none=>E.Z f args H
noncomputable def ev (E:Env) (fuel:Nat) (k:Nat):CallF:=
 Nat.rec (motive:=fun _=>CallF) (fun _ _ _=>none) (fun _ ih f args H=>evCall E ih fuel f args H) k
end Go.Vm
namespace Go.Vm
section
variable {E:Env} {P:Program} {call:CallF} {own:Tmp→Bool} {n:Nat} {ops:Array Oper}
theorem fold_bit (acc : List Nat) (l : Nat) : ∀ (es : List Edge) (s : Nat),
  (es.foldl (fun s e=>match Region.binds .any e with | true=>s ||| (2 ^ e.on ||| (nth acc e.on).getD 0) | false=>s) s).testBit l=true→
  s.testBit l=true∨∃ e∈es,Region.binds .any e=true∧(e.on=l∨((nth acc e.on).getD 0).testBit l=true)
 | [],s,h=> .inl h
 | e :: es, s, h => by
   simp only [List.foldl_cons] at h
   rcases fold_bit acc l es _ h with h1 | ⟨e',he',hb,hx⟩
   · split at h1
     · rename_i hb
       simp only [Nat.testBit_or,Bool.or_eq_true,Nat.testBit_two_pow,decide_eq_true_eq] at h1
       rcases h1 with h1 | h1 | h1
       · exact .inl h1
       · exact .inr ⟨e,List.mem_cons_self,hb,.inl h1⟩
       · exact .inr ⟨e,List.mem_cons_self,hb,.inr h1⟩
     · exact .inl h1
   · exact .inr ⟨e',List.mem_cons_of_mem _ he',hb,hx⟩
theorem masks_ok:∀ (r:List Oper) (acc:List Nat),r=ops.toList.drop acc.length→(∀ j l,((nth acc j).getD 0).testBit l=true→Bef ops l j)→∀ j l,((nth (masks r acc) j).getD 0).testBit l=true→Bef ops l j
 | [],acc,_,h=>h
 | o :: r, acc, hr, h => by
   simp only [masks]
   have ho:ops[acc.length]? = some o:=by
    have:=congrArg List.head? hr
    simp [List.head?_drop] at this
    exact this.symm
   refine masks_ok r _ ?_ fun j l hb=> ?_
   · have := congrArg List.tail hr
     simpa using this
   · rw [nth_eq] at hb
     by_cases e:j < acc.length
     · rw [List.getElem?_append_left e, ← nth_eq] at hb
       exact h j l hb
     · by_cases e2 : j = acc.length
       · subst e2
         rw [List.getElem?_append_right (Nat.le_refl _)] at hb
         simp only [Nat.sub_self,List.getElem?_cons_zero,Option.getD_some,maskOf] at hb
         rcases fold_bit acc l _ _ hb with h1 | ⟨x,hx,hbi,h1 | h1⟩
         · simp at h1
         · exact .edge _ _ ⟨o,x,ho,hx,hbi,h1⟩
         · exact .step _ x.on _ (h _ _ h1) ⟨o,x,ho,hx,hbi,rfl⟩
       · rw [List.getElem?_append_right (by omega)] at hb
         have:([maskOf acc o]:List Nat)[j - acc.length]? = none:=by
          rw [List.getElem?_eq_none];simp;omega
         rw [this] at hb
         simp at hb
theorem bef_ok {l i:Nat} (h:bef (masks ops.toList []) l i=true):Bef ops l i:=
 masks_ok ops.toList [] (by simp) (fun j l h=>by simp [nth_eq] at h) i l h
theorem backA_ok:∀ (r:List Oper) (k:Nat),r=ops.toList.drop k→backA r k=true→∀ l i,k≤i→Pre ops l i→l < i
 | [], k, hr, _, l, i, hk, ⟨o, e, ho, _⟩ => by
   have h1:ops.size≤k:=by
    rcases Nat.lt_or_ge k ops.size with h | h
    · have:=congrArg List.length hr;simp at this;omega
    · exact h
   have h2:ops[i]? = none:=Array.getElem?_eq_none (by omega)
   rw [h2] at ho;cases ho
 | o' :: r, k, hr, h, l, i, hk, hp => by
   simp only [backA,Bool.and_eq_true] at h
   by_cases e:i=k
   · subst e
     obtain ⟨o,x,ho,hx,hb,rfl⟩:=hp
     have ho':ops[i]? = some o':=by
      have:=congrArg List.head? hr
      simp [List.head?_drop] at this
      exact this.symm
     rw [ho] at ho'
     cases ho'
     have:=List.all_eq_true.1 h.1 x hx
     simp only [hb,Bool.not_true,Bool.false_or] at this
     exact Nat.le_of_ble_eq_true this
   · exact backA_ok r (k+1) (by have:=congrArg List.tail hr;simpa using this) h.2 l i (by omega) hp
theorem alL_mem:∀ (r:List Oper) (k i:Nat),i∈alL E own r k↔∃ o,k≤i∧r[i - k]? = some o∧clsO E own o= .al
 | [],k,i=>by simp [alL]
 | o :: r, k, i => by
   have ih:=alL_mem r (k+1) i
   have split1:(∃ o',k≤i∧(o :: r)[i - k]? = some o'∧clsO E own o'= .al)↔(i=k∧clsO E own o= .al)∨∃ o',k+1≤i∧r[i - (k+1)]? = some o'∧clsO E own o'= .al:=by
    constructor
    · rintro ⟨o', h1, h2, h3⟩
      by_cases e:i=k
      · subst e
        simp at h2
        subst h2
        exact .inl ⟨rfl,h3⟩
      · have : i - k = (i - (k + 1)) + 1 := by omega
        rw [this,List.getElem?_cons_succ] at h2
        exact .inr ⟨o',by omega,h2,h3⟩
    · rintro (⟨rfl, h⟩ | ⟨o', h1, h2, h3⟩)
      · exact ⟨o,Nat.le_refl _,by simp,h⟩
      · have : i - k = (i - (k + 1)) + 1 := by omega
        exact ⟨o',by omega,by rw [this,List.getElem?_cons_succ];exact h2,h3⟩
   rw [split1, ← ih]
   simp only [alL]
   split
   · rename_i h
     simp [h]
   · rename_i h
     have:¬ clsO E own o= .al:=h
     simp [this]
theorem stL_mem:∀ (r:List Oper) (k i:Nat),i∈stL E own r k↔∃ o,k≤i∧r[i - k]? = some o∧clsO E own o= .st
 | [],k,i=>by simp [stL]
 | o :: r, k, i => by
   have ih:=stL_mem r (k+1) i
   have split1:(∃ o',k≤i∧(o :: r)[i - k]? = some o'∧clsO E own o'= .st)↔(i=k∧clsO E own o= .st)∨∃ o',k+1≤i∧r[i - (k+1)]? = some o'∧clsO E own o'= .st:=by
    constructor
    · rintro ⟨o', h1, h2, h3⟩
      by_cases e:i=k
      · subst e
        simp at h2
        subst h2
        exact .inl ⟨rfl,h3⟩
      · have : i - k = (i - (k + 1)) + 1 := by omega
        rw [this,List.getElem?_cons_succ] at h2
        exact .inr ⟨o',by omega,h2,h3⟩
    · rintro (⟨rfl, h⟩ | ⟨o', h1, h2, h3⟩)
      · exact ⟨o,Nat.le_refl _,by simp,h⟩
      · have : i - k = (i - (k + 1)) + 1 := by omega
        exact ⟨o',by omega,by rw [this,List.getElem?_cons_succ];exact h2,h3⟩
   rw [split1, ← ih]
   simp only [stL]
   split
   · rename_i h
     simp [h]
   · rename_i h
     have:¬ clsO E own o= .st:=h
     simp [this]
theorem clsI_al {k:Nat}:clsI E own ops k= .al↔k∈alL E own ops.toList 0:=by
 rw [alL_mem]
 simp only [clsI,nth_eq,Nat.zero_le,true_and,Nat.sub_zero]
 cases h:ops.toList[k]? with
 | none=>simp
 | some o=>simp
theorem clsI_st {k:Nat}:clsI E own ops k= .st↔k∈stL E own ops.toList 0:=by
 rw [stL_mem]
 simp only [clsI,nth_eq,Nat.zero_le,true_and,Nat.sub_zero]
 cases h:ops.toList[k]? with
 | none=>simp
 | some o=>simp
theorem freeL_ok {ms:List Nat} {y:Oper} {i:Nat}:∀ (r:List Oper) (k:Nat),r=ops.toList.drop k→freeL E own ops ms y i r k=true→∀ l x,k≤l→l < i→ops[l]? = some x→freeB ops ms x y (clsO E own x) (clsO E own y) l i=true
 | [], k, hr, _, l, x, hk, _, hx => by
   have h1:ops.size≤k:=by
    rcases Nat.lt_or_ge k ops.size with h | h
    · have:=congrArg List.length hr;simp at this;omega
    · exact h
   have h2:ops[l]? = none:=Array.getElem?_eq_none (by omega)
   rw [h2] at hx;cases hx
 | o' :: r, k, hr, h, l, x, hk, hl, hx => by
   simp only [freeL] at h
   split at h
   · rename_i hlt
     simp only [Bool.and_eq_true] at h
     by_cases e:l=k
     · subst e
       have ho':ops[l]? = some o':=by
        have:=congrArg List.head? hr
        simp [List.head?_drop] at this
        exact this.symm
       rw [hx] at ho'
       cases ho'
       exact h.1
     · exact freeL_ok r (k+1) (by have:=congrArg List.tail hr;simpa using this) h.2 l x (by omega) hl hx
   · rename_i hlt
     have:¬ k < i:=fun hki=>by
      have:Nat.blt k i=true:=Nat.ble_eq_true_of_le hki
      rw [this] at hlt;cases hlt
     omega
theorem freeA_ok {ms:List Nat}:∀ (r:List Oper) (k:Nat),r=ops.toList.drop k→freeA E own ops ms r k=true→∀ i y,k≤i→ops[i]? = some y→∀ l x,l < i→ops[l]? = some x→freeB ops ms x y (clsO E own x) (clsO E own y) l i=true
 | [], k, hr, _, i, y, hk, hy => by
   have h1:ops.size≤k:=by
    rcases Nat.lt_or_ge k ops.size with h | h
    · have:=congrArg List.length hr;simp at this;omega
    · exact h
   have h2:ops[i]? = none:=Array.getElem?_eq_none (by omega)
   rw [h2] at hy;cases hy
 | o' :: r, k, hr, h, i, y, hk, hy => by
   simp only [freeA,Bool.and_eq_true] at h
   by_cases e:i=k
   · subst e
     have ho':ops[i]? = some o':=by
      have:=congrArg List.head? hr
      simp [List.head?_drop] at this
      exact this.symm
     rw [hy] at ho'
     cases ho'
     exact fun l x hl hx=>freeL_ok ops.toList 0 (by simp) h.1 l x (Nat.zero_le _) hl hx
   · exact freeA_ok r (k+1) (by have:=congrArg List.tail hr;simpa using this) h.2 i y (by omega) hy
theorem sched_ok {n0 r0 : Nat} {tg : Nat → Nat} (hr0 : r0 ≤ n0) (hb : backA ops.toList 0 = true) (hf : freeA E own ops (masks ops.toList []) ops.toList 0 = true) (htg : ∀ k ∈ stL E own ops.toList 0, r0 ≤ tg k) (hld : ∀ k, clsI E own ops k = .ld → tg k ≤ n0 + roomL E own ops) :
  Sched ops r0 n0 (roomL E own ops) (clsI E own ops) tg (mskS n0 (masks ops.toList []) (alL E own ops.toList 0) (stL E own ops.toList 0) tg) where
 back l i h:=backA_ok ops.toList 0 (by simp) hb l i (Nat.zero_le _) h
 free l i hl hi hn:=by
  have hy:ops[i]? = some ops[i]:=Array.getElem?_eq_getElem hi
  have hx:ops[l]? = some ops[l]:=Array.getElem?_eq_getElem (by omega)
  have h:=freeA_ok ops.toList 0 (by simp) hf i _ (Nat.zero_le _) hy l _ hl hx
  have hbl:bef (masks ops.toList []) l i=false:=by
   cases hc:bef (masks ops.toList []) l i with
   | false=>rfl
   | true=>exact (hn (bef_ok hc)).elim
  have ci:clsI E own ops i=clsO E own ops[i]:=by simp [clsI,nth_eq,hi]
  have cl:clsI E own ops l=clsO E own ops[l]:=by
   have:l < ops.size:=by omega
   simp [clsI,nth_eq,this]
  simp only [freeB,hbl,Bool.false_or,Bool.and_eq_true] at h
  have hbi:bef (masks ops.toList []) i l=false:=by simpa using h.2.2
  have b1:Nat.beq l i=false:=by
   cases e:Nat.beq l i with
   | false=>rfl
   | true=>have:=Nat.eq_of_beq_eq_true e;omega
  have b2:Nat.beq i l=false:=by
   cases e:Nat.beq i l with
   | false=>rfl
   | true=>have:=Nat.eq_of_beq_eq_true e;omega
  refine ⟨by omega,by rw [ci,cl];exact h.1,fun hc=> ?_,fun hc=> ?_,fun hc=> ?_,fun hc=> ?_,fun x y hx' hy'=> ?_⟩
  · exact List.mem_append_left _ (List.mem_map.2 ⟨i,List.mem_filter.2 ⟨clsI_al.1 hc,by rw [hbi];rfl⟩,rfl⟩)
  · exact List.mem_append_left _ (List.mem_map.2 ⟨l,List.mem_filter.2 ⟨clsI_al.1 hc,by rw [hbl];rfl⟩,rfl⟩)
  · exact List.mem_append_right _ (List.mem_map.2 ⟨l,List.mem_filter.2 ⟨clsI_st.1 hc,by rw [b1,hbl,hbi];rfl⟩,rfl⟩)
  · exact List.mem_append_right _ (List.mem_map.2 ⟨i,List.mem_filter.2 ⟨clsI_st.1 hc,by rw [b2,hbi,hbl];rfl⟩,rfl⟩)
  · rw [hx] at hx'; cases hx'
    rw [hy] at hy';cases hy'
    exact h.2.1
 al k h:=by
  have hal:=clsI_al.1 h
  have hk:k < ops.size:=by
   obtain ⟨o,_,h2,_⟩:=(alL_mem _ _ _).1 hal
   have:=get_lt h2
   simpa using this
  unfold roomL
  split
  · rename_i e;rw [e] at hal;cases hal
  · exact hk
 ld:=hld
 msk i k h:=by
  rcases List.mem_append.1 h with h | h
  · obtain ⟨x, _, rfl⟩ := List.mem_map.1 h
    omega
  · obtain ⟨x, hx, rfl⟩ := List.mem_map.1 h
    exact htg x (List.mem_filter.1 hx).1
end
end Go.Vm
namespace Go.Vm
def FOk (E:Env) (P:Program):Prop:=∀ f fn c,E.F f=some fn→fn.body=some c→FnOk P f fn c∧fn.ntmps≤4000
def CallsOk (E:Env) (P:Program) (call:CallF):Prop:=∀ f args H p H',call f args H=some (p,H')→CallOk E P f args H p H'∧(E.eff f=false→H'=H)
section
variable {E:Env} {P:Program} {call:CallF} {own:Tmp→Bool} {n:Nat}
theorem evOp_ok (hc:CallsOk E P call) {tm:TM} {o:Oper} {H:Heap} {p:PV} {H':Heap} (h:evOp E call own tm o H=some (p,H')):OpTo E P own tm o H p H':=by
 obtain ⟨dst,op,ty,pos,after,guard⟩:=o
 unfold evOp at h
 simp only at h
 split at h
 · rename_i f args ats
   split at h
   · rename_i k caps hf
     exact .call f args _ k caps p H' rfl hf (hc _ _ _ _ _ h).1
   · cases h
 · exact .op p H' h
theorem evOps_nil {all:List Oper} {t:Tr} {H:Heap}:evOps E call own n all [] t H=some (t,H):=rfl
theorem evOps_cons {all : List Oper} {o : Oper} {r : List Oper} {t : Tr} {H : Heap} : evOps E call own n all (o :: r) t H = match dstOk n o with
      | false=>none
      | true => match wantedA all (tget t) o with
        | some true => match evOp E call own (tget t) o H with
          | some (p,H')=>evOps E call own n all r (setT t o.dst p) H'
          | none=>none
        | some false=>evOps E call own n all r (setT t o.dst unset) H
        | none=>none:=rfl
theorem evOps_ok (hc:CallsOk E P call) (hn:n≤4000) {all:List Oper}:∀ {l:List Oper} {t:Tr} {H:Heap} {t':Tr} {H':Heap},evOps E call own n all l t H=some (t',H')→RegTo E P own n all l (tget t) H (tget t') H'
 | [], t, H, t', H', h => by
   rw [evOps_nil] at h
   cases h
   exact .nil _ _
 | o :: r, t, H, t', H', h => by
   rw [evOps_cons] at h
   split at h
   · cases h
   · rename_i hd
     have hd:=dstOk_spec hd
     have hset:∀ v,tget (setT t o.dst v)=setD (tget t) o.dst v:=fun v=>setT_eq fun x hx=>Nat.lt_of_lt_of_le (hd x hx) hn
     split at h
     · rename_i hw
       split at h
       · rename_i p H1 ho
         have:=evOps_ok hc hn h
         rw [hset] at this
         exact .op o r _ H p H1 _ _ hw (evOp_ok hc ho) hd this
       · cases h
     · rename_i hw
       have:=evOps_ok hc hn h
       rw [hset] at this
       exact .pass o r _ H _ _ hw hd this
     · cases h
theorem evLoop_zero {body:Tr→Heap→Option (Ex×Tr×Heap)} {t:Tr} {H:Heap}:evLoop body 0 t H=none:=rfl
theorem evLoop_succ {body : Tr → Heap → Option (Ex × Tr × Heap)} {k : Nat} {t : Tr} {H : Heap} : evLoop body (k + 1) t H = match body t H with
      | some (.normal,t',H')=>evLoop body k t' H'
      | r=>r:=rfl
theorem evLoop_ok {c : Code} {body : Tr → Heap → Option (Ex × Tr × Heap)} (hb : ∀ {t H ex t' H'}, body t H = some (ex, t', H') → CodeTo E P own n c (tget t) H ex (tget t') H') :
  ∀ {k:Nat} {t:Tr} {H:Heap} {ex:Ex} {t':Tr} {H':Heap},evLoop body k t H=some (ex,t',H')→CodeTo E P own n (.loop c) (tget t) H ex (tget t') H'
 | 0,t,H,ex,t',H',h=>by rw [evLoop_zero] at h;cases h
 | k + 1, t, H, ex, t', H', h => by
   rw [evLoop_succ] at h
   split at h
   · rename_i t1 H1 h1
     exact .loop c _ _ _ _ _ _ _ (hb h1) (evLoop_ok hb h)
   · rename_i hx
     refine .loopOut c _ _ _ _ _ (hb h) fun e=> ?_
     subst e
     exact hx _ _ h
end
end Go.Vm
namespace Go.Vm
section
variable {E:Env} {P:Program} {call:CallF} {own:Tmp→Bool} {n:Nat} {ops:Array Oper}
theorem map_pair {α:Type} {x:Option α} {H H1:Heap} {p:α} (h:x.map (·,H)=some (p,H1)):x=some p∧H1=H:=by
 cases x with
 | none=>cases h
 | some y=>simp at h;exact ⟨by rw [h.1],h.2.symm⟩
theorem aOp_sc {ρ:Operand→PV} {o:Oper} (hc:clsO E own o= .sc) {H H1:Heap} {p:PV} (h:aOp E (own (o.dst.getD 0)) ρ o.op H=some (p,H1)) (M:Heap):aOp E (own (o.dst.getD 0)) ρ o.op M=some (p,M):=by
 obtain ⟨dst,op,ty,pos,after,guard⟩:=o
 simp only at h ⊢
 cases op
 case call c=>
  obtain ⟨cl,args,ats⟩:=c
  cases cl
  case builtin b=>
   cases b <;> simp only [clsO] at hc <;> (try cases hc) <;> try (split at hc <;> cases hc)
   all_goals
    cases e:args.toList.map ρ with
    | nil=>simp only [aOp,aBuiltin,e] at h;cases h
    | cons x r =>
      simp only [aOp,aBuiltin,e] at h ⊢
      obtain ⟨e2,rfl⟩:=map_pair h
      rw [e2]
      rfl
  all_goals
   simp only [aOp] at h
   cases h
 case pick c x y=>
  simp only [aOp] at h ⊢
  cases e:ρ c <;> simp only [e] at h ⊢ <;> first | (cases h;rfl) | cases h
 case nilCheck x=>
  simp only [aOp] at h ⊢
  cases e:ρ x <;> simp only [e] at h ⊢ <;> first | (cases h;rfl) | cases h
 case extract x i=>
  simp only [aOp] at h ⊢
  cases e:ρ x <;> simp only [e] at h ⊢ <;> first | cases h | (obtain ⟨e,rfl⟩:=map_pair h;rw [e];rfl)
 case makeFunc f fi ca=>
  simp only [aOp] at h ⊢
  cases f <;> simp only at h ⊢ <;> first | cases h | skip
  split at h
  · rename_i hi
    simp only [hi,if_true] at h ⊢
    cases h
    rfl
  · cases h
 case buildSlice t len parts=>
  have hc:(if own (dst.getD 0)=true then Cls.tk else Cls.sc)=Cls.sc:=hc
  split at hc
  · cases hc
  · rename_i hw
    simp only [aOp,hw] at h ⊢
    split at h
    · simp only [Bool.false_eq_true, if_false] at h ⊢
      split at h
      · cases h;rfl
      · cases h
    · cases h
 all_goals simp only [clsO] at hc
 all_goals first | cases hc | skip
 all_goals simp only [aOp] at h ⊢
 all_goals first | cases h | skip
 all_goals first | rfl | (obtain ⟨e,rfl⟩:=map_pair h;rw [e];rfl)
theorem aOp_ld {tm:TM} {o:Oper} {s:Nat} (hc:clsO E own o= .ld) {H H1 K:Heap} {p:PV} (h:aOp E (own (o.dst.getD 0)) (evalO E tm) o.op H=some (p,H1)) (hs:seenO E tm o s=true) (hK:K.bx.take s=H.bx.take s):aOp E (own (o.dst.getD 0)) (evalO E tm) o.op K=some (p,K):=by
 obtain ⟨dst,op,ty,pos,after,guard⟩:=o
 simp only at h ⊢
 cases op
 case load t a=>
  simp only [aOp] at h ⊢
  obtain ⟨e,rfl⟩:=map_pair h
  have e2:aLoad E t (evalO E tm a) K=aLoad E t (evalO E tm a) H1:=by
   unfold aLoad Heap.rd
   simp only [seenO] at hs
   cases ha:evalO E tm a <;> simp only
   rename_i id es ix off
   rw [ha] at hs
   have hid:id < s:=Nat.le_of_ble_eq_true hs
   have:=congrArg (fun l=>l[id]?) hK
   simp only [List.getElem?_take,hid,if_true] at this
   rw [nth_eq,nth_eq,this]
  rw [e2,e]
  rfl
 case call c=>
  obtain ⟨cl,args,ats⟩:=c
  cases cl
  case builtin b=>cases b <;> (simp only [clsO] at hc;first | cases hc | (split at hc <;> cases hc))
  all_goals
   simp only [aOp] at h
   cases h
 case buildSlice t len parts=>
  have hc:(if own (dst.getD 0)=true then Cls.tk else Cls.sc)=Cls.ld:=hc
  split at hc <;> cases hc
 all_goals simp only [clsO] at hc
 all_goals cases hc
theorem aOp_qu {ρ:Operand→PV} {o:Oper} (hc:clsO E own o= .qu) {H H1:Heap} {p:PV} (h:aOp E (own (o.dst.getD 0)) ρ o.op H=some (p,H1)):H1=H:=by
 obtain ⟨dst,op,ty,pos,after,guard⟩:=o
 simp only at h
 cases op
 case lookup t x i ok=>
  simp only [aOp] at h
  exact (map_pair h).2
 case call c=>
  obtain ⟨cl,args,ats⟩:=c
  cases cl
  case builtin b=>
   cases b <;> simp only [clsO] at hc <;> (try cases hc) <;> try (split at hc <;> cases hc)
   simp only [aOp,aBuiltin] at h
   split at h <;> first | cases h | skip
   all_goals first | exact (map_pair h).2 | (rename_i hh _ _;cases hh)
  all_goals
   simp only [aOp] at h
   cases h
 case buildSlice t len parts=>
  have hc:(if own (dst.getD 0)=true then Cls.tk else Cls.sc)=Cls.qu:=hc
  split at hc <;> cases hc
 all_goals simp only [clsO] at hc
 all_goals cases hc
theorem aOp_st {tm:TM} {o:Oper} (hc:clsO E own o= .st) {H M:Heap} {p:PV} {b:Box} (h:aOp E (own (o.dst.getD 0)) (evalO E tm) o.op H=some (p,M)) (hb:nth M.bx (tgtO E 0 tm o)=some b):M=setB H (tgtO E 0 tm o) b:=by
 have put:∀ {id:Nat} {x:Box} {M:Heap},H.put id x=some M→∀ b,nth M.bx id=some b→M=setB H id b:=fun {id x M} h b hb=>by
  unfold Heap.put at h
  split at h
  · cases h
  · cases h
    rw [nth_eq] at hb
    have hl:=get_lt hb
    simp only [List.length_set] at hl
    rw [List.getElem?_set_self hl] at hb
    cases hb
    rfl
 obtain ⟨dst,op,ty,pos,after,guard⟩:=o
 simp only at h
 cases op
 case store t a v=>
  simp only [aOp] at h
  split at h
  · split at h
    · cases hw : H.wr (evalO E tm a) (evalO E tm v).cells with
      | none=>rw [hw] at h;cases h
      | some M' =>
        rw [hw] at h
        cases h
        unfold Heap.wr at hw
        cases ha:evalO E tm a <;> rw [ha] at hw <;> simp only at hw <;> first | cases hw | skip
        simp only [tgtO,ha] at hb ⊢
        split at hw
        · split at hw
          · split at hw
            · split at hw
              · exact put hw b hb
              · cases hw
            · cases hw
          · cases hw
        · split at hw
          · exact put hw b hb
          · cases hw
        · cases hw
    · cases h
  · cases h
 case mapUpdate t m k v=>
  simp only [aOp] at h
  cases hw:aMapUpdate E t (evalO E tm m) (evalO E tm k) (evalO E tm v) H with
  | none=>rw [hw] at h;cases h
  | some M' =>
    rw [hw] at h
    cases h
    unfold aMapUpdate at hw
    split at hw
    · split at hw
      · rename_i id _ hm
        simp only [tgtO,hm] at hb ⊢
        split at hw
        · split at hw
          · split at hw
            · exact put hw b hb
            · exact put hw b hb
            · cases hw
          · cases hw
        · cases hw
      · cases hw
    · cases hw
 case call c=>
  obtain ⟨cl,args,ats⟩:=c
  cases cl
  case builtin b=>cases b <;> (simp only [clsO] at hc;first | cases hc | (split at hc <;> cases hc))
  all_goals
   simp only [aOp] at h
   cases h
 case buildSlice t len parts=>
  have hc:(if own (dst.getD 0)=true then Cls.tk else Cls.sc)=Cls.st:=hc
  split at hc <;> cases hc
 all_goals simp only [clsO] at hc
 all_goals cases hc
theorem clsI_eq {i:Nat} {o:Oper} (ho:ops[i]? = some o):clsI E own ops i=clsO E own o:=by
 simp [clsI,nth_eq,ho]
theorem evHp_ok (hc : CallsOk E P call) {n0 i : Nat} {o : Oper} {t : Tr} {tg : Nat → Nat} {msk : Nat → List Nat} {H H' : Heap} {p : PV} (ho : ops[i]? = some o) (hw : wantedA ops.toList (tget t) o = some true)
  (h:evHp E call own n0 (msk i) (some (tg i)) t o i H=some (p,H')):Hp E P own ops n0 (clsI E own ops) tg msk i o (tget t) H p H':=by
 have hci:=clsI_eq (E:=E) (own:=own) ho
 unfold evHp at h
 cases hcl:clsO E own o with
 | sc =>
   rw [hcl] at h
   simp only at h
   split at h
   · rename_i p1 H1 h1
     cases h
     exact .sc _ _ hw fun M=> .op _ _ (aOp_sc hcl h1 M)
   · cases h
 | qu =>
   rw [hcl] at h hci
   simp only at h
   have gen:(match aOp E (own (o.dst.getD 0)) (evalO E (tget t)) o.op (maskH (msk i) H) with
    | some (p,_)=>some (p,H)
    | none=>none)=some (p,H')→Hp E P own ops n0 (clsI E own ops) tg msk i o (tget t) H p H':=fun h=>by
    split at h
    · rename_i p1 H1 h1
      cases h
      have e:=aOp_qu hcl h1
      subst e
      exact .qu _ _ hw hci (.op _ _ h1)
    · cases h
   split at h
   · rename_i f args ats hop
     split at h
     · rename_i k caps hf
       split at h
       · cases h
       · rename_i he
         split at h
         · rename_i p1 H1 h1
           cases h
           obtain ⟨c1,c2⟩:=hc _ _ _ _ _ h1
           have e:=c2 he
           subst e
           exact .qu _ _ hw hci (.call f args _ k caps _ _ hop hf c1)
         · cases h
     · cases h
   · exact gen h
 | ld =>
   rw [hcl] at h hci
   simp only at h
   split at h
   · rename_i p1 H1 h1
     split at h
     · rename_i hs
       cases h
       exact .ld _ _ hw hci fun K hK=> .op _ _ (aOp_ld hcl h1 hs hK)
     · cases h
   · cases h
 | tk =>
   rw [hcl] at h hci
   simp only at h
   split at h
   · rename_i p1 M h1
     split at h
     · rename_i hl
       cases h
       exact .tk _ _ M hw hci (evOp_ok hc h1) (Nat.le_of_ble_eq_true hl)
     · cases h
   · cases h
 | ef =>
   rw [hcl] at h hci
   simp only at h
   split at h
   · rename_i p1 M h1
     split at h
     · rename_i hl
       cases h
       exact .ef _ _ M hw hci (evOp_ok hc h1) (Nat.le_of_ble_eq_true hl)
     · cases h
   · cases h
 | al =>
   rw [hcl] at h hci
   simp only at h
   split at h
   · rename_i hd
     rw [nth_eq] at hd
     split at h
     · rename_i e hop
       split at h
       · rename_i ei he
         split at h
         · rename_i hz
           cases h
           exact .al _ e ei hw hci hop he hz.1 hz.2 hd
         · cases h
       · cases h
     · rename_i e x hop
       split at h
       · rename_i hp
         cases h
         exact .bo _ e x hw hci hop hp hd
       · cases h
     · cases h
   · cases h
 | st =>
   rw [hcl] at h hci
   simp only at h
   split at h
   · rename_i p1 M h1
     split at h
     · rename_i b hb
       split at h
       · rename_i hs
         cases h
         simp only [Bool.and_eq_true,Bool.not_eq_true'] at hs
         have e1:=Nat.eq_of_beq_eq_true hs.1
         have hM:M=setB (maskH (msk i) H) (tg i) b:=by
          rw [e1]
          exact aOp_st hcl h1 hb
         rw [hM] at h1
         refine .st _ _ b hw hci (.op _ _ h1) fun hm=> ?_
         have:=List.any_eq_false.1 hs.2 _ hm
         simp at this
       · cases h
     · cases h
   · cases h
end
end Go.Vm
namespace Go.Vm
section
variable {E:Env} {P:Program} {call:CallF} {own:Tmp→Bool} {n:Nat}
theorem tgtO_ld {own:Tmp→Bool} {o:Oper} {N:Nat} {tm:TM} (hc:clsO E own o= .ld):tgtO E N tm o=N:=by
 obtain ⟨dst,op,ty,pos,after,guard⟩:=o
 cases op
 case load t a=>rfl
 case call c=>
  obtain ⟨cl,args,ats⟩:=c
  cases cl
  case builtin b=>cases b <;> (simp only [clsO] at hc;first | cases hc | (split at hc <;> cases hc))
  case value x=>
   cases x
   case func k=>
    simp only [clsO] at hc
    split at hc
    · split at hc
      · cases hc
      · split at hc <;> cases hc
    · cases hc
   all_goals
    simp only [clsO] at hc
    cases hc
  all_goals
   simp only [clsO] at hc
   cases hc
 case buildSlice t len parts=>
  have hc:(if own (dst.getD 0)=true then Cls.tk else Cls.sc)=Cls.ld:=hc
  split at hc <;> cases hc
 all_goals simp only [clsO] at hc
 all_goals cases hc
theorem evDrawL_ok (hc : CallsOk E P call) (hn : n ≤ 4000) {ops : Array Oper} {n0 : Nat} {tg : Nat → Nat} {msk : Nat → List Nat} : ∀ (r : List Oper) (i : Nat) {t : Tr} {H : Heap} {t' : Tr} {H' : Heap}, r = ops.toList.drop i →
  evDrawL E call own n n0 msk (fun i=>some (tg i)) ops.toList r i t H=some (t',H')→Run E P own n ops n0 (clsI E own ops) tg msk ((List.range ops.size).drop i) (tget t) H (tget t') H'
 | [], i, t, H, t', H', hr, h => by
   simp only [evDrawL] at h
   cases h
   have h1:ops.size≤i:=by
    rcases Nat.lt_or_ge i ops.size with h | h
    · have:=congrArg List.length hr;simp at this;omega
    · exact h
   rw [List.drop_eq_nil_of_le (by simpa using h1)]
   exact .nil _ _
 | o :: r, i, t, H, t', H', hr, h => by
   have ho:ops[i]? = some o:=by
    have:=congrArg List.head? hr
    simp [List.head?_drop] at this
    exact this.symm
   have hi:i < ops.size:=by
    rcases Nat.lt_or_ge i ops.size with h | h
    · exact h
    · rw [Array.getElem?_eq_none h] at ho;cases ho
   have hr':r=ops.toList.drop (i+1):=by
    have:=congrArg List.tail hr
    simpa using this
   have hd:(List.range ops.size).drop i=i :: (List.range ops.size).drop (i+1):=by
    rw [List.drop_eq_getElem_cons (by simpa using hi)]
    simp
   rw [hd]
   simp only [evDrawL] at h
   split at h
   · cases h
   · rename_i hds
     have hds:=dstOk_spec hds
     have hset:∀ v,tget (setT t o.dst v)=setD (tget t) o.dst v:=fun v=>setT_eq fun x hx=>Nat.lt_of_lt_of_le (hds x hx) hn
     split at h
     · rename_i hw
       split at h
       · rename_i p H1 hp
         have ih:=evDrawL_ok hc hn r (i+1) hr' h
         rw [hset] at ih
         exact .cons i _ o _ _ p H1 _ _ ho hds (evHp_ok hc ho hw hp) ih
       · cases h
     · rename_i hw
       have ih:=evDrawL_ok hc hn r (i+1) hr' h
       rw [hset] at ih
       exact .cons i _ o _ _ unset H _ _ ho hds (.pass _ hw) ih
     · cases h
theorem evDraw_ok (hE : TOk E P) (hm : P.follows .mixedOrders = true) (hc : CallsOk E P call) (hn : n ≤ 4000) {ops : Array Oper} {t : Tr} {H : Heap} {t' : Tr} {H' : Heap} (h : evDraw E call own n ops t H = some (t', H')) :
  DrawOk E P own n ops (tget t) H (tget t') H':=by
 unfold evDraw at h
 split at h
 · rename_i hb
   simp only [Bool.and_eq_true] at hb
   split at h
   · rename_i t1 _ _
     split at h
     · rename_i hst
       have htg:∀ k∈stL E own ops.toList 0,H.ro≤tgtI E (H.bx.length+roomL E own ops) (tget t1) ops k:=fun k hk=>Nat.le_of_ble_eq_true (List.all_eq_true.1 hst k hk)
       have hld:∀ k,clsI E own ops k= .ld→tgtI E (H.bx.length+roomL E own ops) (tget t1) ops k≤H.bx.length+roomL E own ops:=fun k hk=>by
        cases ho:nth ops.toList k with
        | none=>simp only [clsI,ho] at hk;cases hk
        | some o =>
          simp only [clsI,ho] at hk
          simp only [tgtI,ho]
          rw [tgtO_ld hk]
          exact Nat.le_refl _
       exact fun id g a w Q hr hq=>drawOk hE hm (sched_ok hr.inv.ro hb.1 hb.2 htg hld) (evDrawL_ok hc hn ops.toList 0 (by simp) h) id g a w Q hr hq
     · cases h
   · cases h
 · cases h
theorem evCode_ok (hE:TOk E P) (hm:P.follows .mixedOrders=true) (hc:CallsOk E P call) (hn:n≤4000) {fuel:Nat} {c:Code}:∀ {t:Tr} {H:Heap} {ex:Ex} {t':Tr} {H':Heap},evCode E call own n fuel c t H=some (ex,t',H')→CodeTo E P own n c (tget t) H ex (tget t') H':=by
 induction c with
 | skip=>intro t H ex t' H' h;cases h;exact .skip _ _
 | region id ops draw =>
   intro t H ex t' H' h
   cases draw with
   | false =>
     change (match evOps E call own n ops.toList ops.toList t H with
      | some (t',H')=>some (Ex.normal,t',H')
      | none=>none)=_ at h
     split at h
     · rename_i t1 H1 h1
       cases h
       exact .region id ops _ _ _ _ (evOps_ok hc hn h1)
     · cases h
   | true =>
     change (match evDraw E call own n ops t H with
      | some (t',H')=>some (Ex.normal,t',H')
      | none=>none)=_ at h
     split at h
     · rename_i t1 H1 h1
       cases h
       exact .draw id ops _ _ _ _ (evDraw_ok hE hm hc hn h1)
     · cases h
 | seq a b iha ihb =>
   intro t H ex t' H' h
   change (match evCode E call own n fuel a t H with
    | some (.normal,t',H')=>evCode E call own n fuel b t' H'
    | r=>r)=_ at h
   split at h
   · rename_i t1 H1 h1
     exact .seq a b _ _ _ _ _ _ _ (iha h1) (ihb h)
   · rename_i hx
     refine .seqOut a b _ _ _ _ _ (iha h) fun e=> ?_
     subst e
     exact hx _ _ h
 | cond x a b iha ihb =>
   intro t H ex t' H' h
   change (match evalO E (tget t) x with
    | .bool true=>evCode E call own n fuel a t H
    | .bool false=>evCode E call own n fuel b t H
    | _=>none)=_ at h
   split at h
   · rename_i hx
     exact .cond x a b true _ _ _ _ _ hx (by simpa using iha h)
   · rename_i hx
     exact .cond x a b false _ _ _ _ _ hx (by simpa using ihb h)
   · cases h
 | block i a iha =>
   intro t H ex t' H' h
   change (match evCode E call own n fuel a t H with
    | some (.exit j,t',H')=>if j=i then some (Ex.normal,t',H') else some (.exit j,t',H')
    | r=>r)=_ at h
   split at h
   · rename_i j t1 H1 h1
     split at h
     · rename_i e
       subst e
       cases h
       exact .blockOut _ a _ _ _ _ (iha h1)
     · rename_i e
       cases h
       exact .block i a _ _ _ _ _ (iha h1) fun e'=>e (by cases e';rfl)
   · rename_i hx
     refine .block i a _ _ _ _ _ (iha h) fun e=> ?_
     subst e
     exact hx _ _ _ h
 | loop a iha =>
   intro t H ex t' H' h
   change evLoop (evCode E call own n fuel a) fuel t H=_ at h
   exact evLoop_ok iha h
 | rangeFunc f params assign body ih1 ih2=>intro t H ex t' H' h;cases h
 | exit i=>intro t H ex t' H' h;cases h;exact .exit i _ _
 | scope a iha=>intro t H ex t' H' h;cases h
 | label l=>intro t H ex t' H' h;cases h;exact .label l _ _
 | goto l=>intro t H ex t' H' h;cases h
 | ret=>intro t H ex t' H' h;cases h;exact .ret _ _
 | refuse w=>intro t H ex t' H' h;cases h
theorem evCall_ok (hE:TOk E P) (hm:P.follows .mixedOrders=true) (hF:FOk E P) (hZ:CallsOk E P E.Z) (hc:CallsOk E P call) {fuel:Nat}:CallsOk E P (evCall E call fuel):=by
 intro f args H p H' h
 unfold evCall at h
 split at h
 · rename_i fn hf
   split at h
   · rename_i c hb
     obtain ⟨hfn,hn⟩:=hF f fn c hf hb
     split at h
     · rename_i hlen
       have hlen:args.length < 4000:=by have:=Nat.le_of_ble_eq_true hlen;omega
       split at h
       · rename_i heff
         split at h
         · rename_i ex t H1 hcode
           have hcode:=evCode_ok hE hm hc hn hcode
           rw [tree0_eq hlen] at hcode
           split at h
           · cases h
           · rename_i hx
             split at h
             · rename_i vs hres
               cases h
               refine ⟨callOk_full hE hfn hcode (fun i e=>hx i e) hres,fun e=> ?_⟩
               rw [heff] at e;cases e
             · cases h
         · cases h
       · split at h
         · rename_i ex t H1 hcode
           have hcode:=evCode_ok hE hm hc hn hcode
           rw [tree0_eq (by simpa using hlen)] at hcode
           split at h
           · cases h
           · rename_i hx
             split at h
             · rename_i vs hres
               split at h
               · rename_i v hfr
                 cases h
                 exact ⟨callOk_pure hE hfn hcode (fun i e=>hx i e) hres hfr,fun _=>rfl⟩
               · cases h
             · cases h
         · cases h
     · cases h
   · cases h
 · exact hZ _ _ _ _ _ h
theorem ev_ok (hE:TOk E P) (hm:P.follows .mixedOrders=true) (hF:FOk E P) (hZ:CallsOk E P E.Z) {fuel:Nat}:∀ k,CallsOk E P (ev E fuel k)
 | 0=>fun f args H p H' h=>by cases h
 | k+1=>evCall_ok (call:=ev E fuel k) hE hm hF hZ (ev_ok hE hm hF hZ k)
end
end Go.Vm
namespace Go.Vm
def hNil:Heap:={bx:=[],ro:=0,live:=[],nt:=0}
def bare (g:Gh):Gh:={S:=g.S,σ:=fun _=>none,τ:=fun _=>none,κ:=fun _=>0,mono:=g.mono}
section
variable {E:Env} {P:Program} {g:Gh} {H:Heap} {w:World}
theorem nil_live {id:Nat} (h:hNil.liveAt id):False:=by
 obtain ⟨b,hb,_⟩:=h
 simp [hNil] at hb
theorem nil_shut (g:Gh) (b:Nat):Shut g hNil b:=⟨fun _ _ h=>(nil_live h).elim,fun t lo hi h=>by simp [hNil] at h⟩
theorem bare_inv (hi:Inv g H w):Inv (bare g) hNil w where
 st:=hi.st
 bx id es el h:=by simp [hNil] at h
 mp id es h:=by simp [hNil] at h
 sp id T cs h:=by simp [hNil] at h
 inj i j b h:=(nil_live h).elim
 sd _ _:=rfl
 td _ _:=rfl
 tk t b lo hi' h:=by simp [hNil] at h
 tinj t t' b lo hi' lo' hi2 h:=by simp [hNil] at h
 nd:=List.nodup_nil
 lt t h:=by simp [hNil] at h
 sz id b h:=by simp [bare] at h
 ro:=Nat.le_refl _
 rm id b c T m h:=(nil_live h).elim
theorem return_bare (hi : Inv g H w) {g' : Gh} {H' : Heap} {w' : World} (k : Keep (bare g) hNil w g' H' w') :
  Inv (retG g w w') H w'∧Keep g H w (retG g w w') H w'∧∀ b o v,g'.S b o=some v→w'.cell? ⟨b,o,none⟩=some v→(retG g w w').S b o=some v:=by
 have hh:∀ b,b < w.heap.size→w'.heap[b]? = w.heap[b]? :=fun b hb=>k.heap b hb (nil_shut _ b)
 have hS:∀ b o,b < w.heap.size→(retG g w w').S b o=g.S b o:=fun b o hb=>by simp [retG,hb]
 have hle:g.Le (retG g w w'):=⟨fun b o v h=>by rw [hS b o (hi.S_lt h)];exact h,fun _ _ h=>h,fun _ _ h=>h,fun _ _ _=>rfl,rfl⟩
 refine ⟨⟨?_,?_,?_,?_,hi.inj,hi.sd,hi.td,?_,hi.tinj,hi.nd,hi.lt,?_,hi.ro,fun id b c T m h1 h2 h3=>hi.rm id b c T m h1 h2 (by rw [← hh b (hi.sz _ _ h2)];exact h3)⟩,⟨hle,fun b hb _=>hh b hb,fun b hb _ o=>hS b o hb,k.size,?_,?_,rfl,Nat.le_refl _,fun _ _=>rfl,Nat.le_refl _,fun _ h=> .inl h,fun _ _ _ h=>h,fun _ _ h=>h,k.so⟩,?_⟩
 · intro b o v h
   by_cases hb:b < w.heap.size
   · rw [hS b o hb] at h
     rw [cell_of_heap (hh b hb)]
     exact hi.st _ _ _ h
   · simpa [retG,hb] using h
 · intro id es el h
   obtain ⟨b,c,T,h1,h2,h3,h4,h5,h6⟩:=hi.bx id es el h
   have hb:=hi.sz _ _ h1
   exact ⟨b,c,T,h1,by rw [hh b hb];exact h2,h3,h4,fun i hi' j hj=>let ⟨v,e,x⟩:=h5 i hi' j hj;⟨v,e,x.mono hle⟩,fun o=>by rw [hS b o hb];exact h6 o⟩
 · intro id es h
   obtain ⟨b,c,T,h1,h2,h3,h4,h5⟩:=hi.mp id es h
   have hb:=hi.sz _ _ h1
   exact ⟨b,c,T,h1,by rw [hh b hb];exact h2,h3,fun i hi'=>let ⟨e,a,x,y⟩:=h4 i hi';⟨e,a,x.mono hle,y.mono hle⟩,fun o=>by rw [hS b o hb];exact h5 o⟩
 · intro id T cs h
   obtain ⟨b,c,h1,h2,h3,h4,h5⟩:=hi.sp id T cs h
   have hb:=hi.sz _ _ h1
   exact ⟨b,c,h1,by rw [hh b hb];exact h2,h3,fun j hj=>let ⟨v,e,x⟩:=h4 j hj;⟨v,e,x.mono hle⟩,fun o=>by rw [hS b o hb];exact h5 o⟩
 · intro t b lo hi' h1 h2
   obtain ⟨⟨c,T,h3,h4⟩,h5,h6⟩:=hi.tk t b lo hi' h1 h2
   have hb:b < w.heap.size:=by
    rcases Nat.lt_or_ge b w.heap.size with h | h
    · exact h
    · simp [Array.getElem?_eq_none h] at h3
   exact ⟨⟨c,T,by rw [hh b hb];exact h3,h4⟩,fun o ho=>by rw [hS b o hb];exact h5 o ho,h6⟩
 · intro id b h
   exact Nat.lt_of_lt_of_le (hi.sz _ _ h) k.size
 · intro id b h h'
   rw [show (retG g w w').σ id=g.σ id from rfl,h] at h';cases h'
 · intro t b lo hi' h h'
   rw [show (retG g w w').τ t=g.τ t from rfl,h] at h';cases h'
 · intro b o v h h'
   by_cases hb:b < w.heap.size
   · have := k.store b hb (nil_shut _ b) o
     rw [hS b o hb,show g.S b o=(bare g).S b o from rfl, ← this];exact h
   · simpa [retG,hb] using h'
noncomputable def frzG:PV→Option PV
 | .agg cs=>match frzL cs with | some cs'=>some (.agg cs') | none=>none
 | .fn f []=>some (.fn f [])
 | v=>frz1 v
noncomputable def frzGL:List PV→Option (List PV)
 | []=>some []
 | v :: r => match frzG v with
   | some v' => match frzGL r with
     | some r'=>some (v' :: r')
     | none=>none
   | none=>none
theorem frzG_ok {p p':PV} {v:Value} (h:V g p v) (hf:frzG p=some p'):V0 g.S p' v:=by
 unfold frzG at hf
 split at hf
 · rename_i cs
   split at hf
   · rename_i cs' hc
     cases hf
     obtain ⟨vs,hl,rfl,hv⟩:=h.agg_inv
     obtain ⟨h1,h2⟩:=frzL_ok hc
     exact .agg _ _ (by omega) fun i hi=>frz1_ok (hv i (by omega)) (h2 i (by omega) hi)
   · cases hf
 · cases hf
   cases h with
   | pure _ _ h=>exact h
   | fn _ _ vs hl _ =>
     have:vs= #[]:=Array.size_eq_zero_iff.1 hl
     subst this
     exact .fn _ _ _ rfl fun i hi=>absurd hi (by simp)
 · exact frz1_ok h hf
theorem frzGL_ok:∀ {ps ps':List PV},frzGL ps=some ps'→ps'.length=ps.length∧∀ i (hi:i < ps.length) (hi':i < ps'.length),frzG ps[i]=some ps'[i]
 | [],ps',h=>by simp only [frzGL,Option.some.injEq] at h;subst h;exact ⟨rfl,fun i hi=>absurd hi (by simp)⟩
 | p :: ps, ps', h => by
   simp only [frzGL] at h
   split at h
   · rename_i p' hp
     split at h
     · rename_i r hr
       cases h
       obtain ⟨h1,h2⟩:=frzGL_ok hr
       refine ⟨by simp [h1],fun i hi hi'=> ?_⟩
       cases i with
       | zero=>exact hp
       | succ i=>exact h2 i (by simpa using hi) (by simpa using hi')
     · cases h
   · cases h
theorem callOk_lift {f:FuncId} {args args':List PV} {r r':PV} {H':Heap} (h:CallOk E P f args' hNil r H') (ha:frzGL args=some args') (hf:frz3 0 H' r=some r') (H:Heap):CallOk E P f args H r' H:=by
 intro g w vals hi hg hv
 obtain ⟨l1,l2⟩:=frzGL_ok ha
 have hv':VL (bare g) args' vals.toList:=⟨by rw [l1];exact hv.1,fun i h1 h2=>V.pure (g:=bare g) _ _ (show V0 g.S _ _ from frzG_ok (hv.2 i (by omega) h2) (l2 i (by omega) h1))⟩
 refine UponCall.mono (fun v w' ⟨g',hp,hi',k⟩=> ?_) (h (bare g) w vals (bare_inv hi) hg hv')
 obtain ⟨i1,k1,hS⟩:=return_bare hi k
 have hq:V0 (retG g w w').S r' v:=frz3_ok hi' (fun b o v h=>hS b o v h (hi'.st _ _ _ h)) (fun id b o v _ hσ hcell=>by
  have hb:w.heap.size≤b:=(k.new id b rfl hσ).elim (fun h=>h) fun ⟨_,_,a,_⟩=>(nil_live a).elim
  simp [retG,Nat.not_lt.2 hb,hcell]) hp hf
 exact ⟨retG g w w',.pure _ _ hq,i1,k1⟩
theorem CallOk.env {E':Env} (hG:E'.G=E.G) (hI:E'.I=E.I:=by exact rfl) (hm:E'.mono=true→E.mono=true:=by exact fun h=>h) {f:FuncId} {args:List PV} {H H':Heap} {r:PV} (h:CallOk E P f args H r H'):CallOk E' P f args H r H':=
 fun g w vals hi hg hv=>h g w vals hi ⟨fun k cs e=>hg.1 k cs (by rw [hG];exact e),fun m=>hm (hg.2.1 m),fun k hk=>hg.2.2 k (by rw [hI];exact hk)⟩ hv
end
end Go.Vm
namespace Go.Vm
mutual
def eqP:PV→PV→Bool
 | .bool a,.bool b=>match a,b with | true,true=>true | false,false=>true | _,_=>false
 | .int k n,.int k' m=>decide (k=k') && decide (n=m)
 | .str s,.str t=>decide (s=t)
 | .nilp,.nilp=>true
 | .nils,.nils=>true
 | .nilm,.nilm=>true
 | .nilf,.nilf=>true
 | .sl .none es el,.sl .none es' el'=>Nat.beq es es' && eqPLL el el'
 | .agg cs,.agg cs'=>eqPL cs cs'
 | .tup cs,.tup cs'=>eqPL cs cs'
 | _,_=>false
def eqPL:List PV→List PV→Bool
 | [],[]=>true
 | a :: r,b :: s=>eqP a b && eqPL r s
 | _,_=>false
def eqPLL:List (List PV)→List (List PV)→Bool
 | [],[]=>true
 | a :: r,b :: s=>eqPL a b && eqPLL r s
 | _,_=>false
end
theorem eqP_ok (a:PV):∀ b,eqP a b=true→a=b:=by
 refine @PV.rec (fun a=>∀ b,eqP a b=true→a=b) (fun l=>∀ m,eqPL l m=true→l=m) (fun l=>∀ m,eqPLL l m=true→l=m)
  ?bool ?int ?str ?nilp ?ptr ?fptr ?nils ?sl ?own ?nilm ?map ?nilf ?fn ?agg ?tup ?undef ?n2 ?c2 ?n3 ?c3 a
 case bool=>intro x b h;cases b <;> simp [eqP] at h;rename_i y;cases x <;> cases y <;> simp at h ⊢
 case int=>intro k n b h;cases b <;> simp [eqP] at h;simp [h]
 case str=>intro t b h;cases b <;> simp [eqP] at h;simp [h]
 case nilp=>intro b h;cases b <;> first | rfl | simp [eqP] at h
 case nils=>intro b h;cases b <;> first | rfl | simp [eqP] at h
 case nilm=>intro b h;cases b <;> first | rfl | simp [eqP] at h
 case nilf=>intro b h;cases b <;> first | rfl | simp [eqP] at h
 case sl=>
  intro t es el ih b h
  cases b with
  | sl t' es' el' =>
    cases t <;> cases t' <;> simp only [eqP,Bool.false_eq_true] at h
    simp only [Bool.and_eq_true] at h
    rw [Nat.eq_of_beq_eq_true h.1,ih el' h.2]
  | _=>cases t <;> simp [eqP] at h
 case agg=>
  intro cs ih b h
  cases b with
  | agg cs' =>
    simp only [eqP] at h
    rw [ih cs' h]
  | _=>simp [eqP] at h
 case tup=>
  intro cs ih b h
  cases b with
  | tup cs' =>
    simp only [eqP] at h
    rw [ih cs' h]
  | _=>simp [eqP] at h
 case n2=>intro b h;cases b <;> first | rfl | simp [eqPL] at h
 case c2=>
  intro x r i1 i2 b h
  cases b with
  | nil=>simp [eqPL] at h
  | cons y s =>
    simp only [eqPL,Bool.and_eq_true] at h
    rw [i1 y h.1,i2 s h.2]
 case n3=>intro b h;cases b <;> first | rfl | simp [eqPLL] at h
 case c3=>
  intro x r i1 i2 b h
  cases b with
  | nil=>simp [eqPLL] at h
  | cons y s =>
    simp only [eqPLL,Bool.and_eq_true] at h
    rw [i1 y h.1,i2 s h.2]
 all_goals intros;rename_i h;simp [eqP] at h
theorem eqPL_ok:∀ (a b:List PV),eqPL a b=true→a=b
 | [],[],_=>rfl
 | a :: r, b :: s, h => by
   simp only [eqPL,Bool.and_eq_true] at h
   rw [eqP_ok a b h.1,eqPL_ok r s h.2]
 | [],_ :: _,h=>by simp [eqPL] at h
 | _ :: _,[],h=>by simp [eqPL] at h
structure Fact where
 f:FuncId
 args:List PV
 r:PV
def findF:List Fact→FuncId→List PV→Option PV
 | [],_,_=>none
 | x :: l, f, args => match Nat.beq x.f f with
   | true => match eqPL x.args args with
     | true=>some x.r
     | false=>findF l f args
   | false=>findF l f args
noncomputable def evFact (E:Env) (fuel k:Nat) (f:FuncId) (args:List PV):Option PV:=
 match frzGL args with
 | some args' => match ev E fuel k f args' hNil with
   | some (r,H')=>frz3 0 H' r
   | none=>none
 | none=>none
section
variable {E:Env} {P:Program}
def FactOk (E:Env) (P:Program) (x:Fact):Prop:=∀ H,CallOk E P x.f x.args H x.r H
theorem findF_ok {f:FuncId} {args:List PV} {r:PV}:∀ {l:List Fact},findF l f args=some r→∃ x∈l,x.f=f∧x.args=args∧x.r=r
 | x :: l, h => by
   simp only [findF] at h
   split at h
   · rename_i h1
     split at h
     · rename_i h2
       cases h
       exact ⟨x,List.mem_cons_self,Nat.eq_of_beq_eq_true h1,eqPL_ok _ _ h2,rfl⟩
     · obtain ⟨y,hy,e⟩:=findF_ok h;exact ⟨y,List.mem_cons_of_mem _ hy,e⟩
   · obtain ⟨y,hy,e⟩:=findF_ok h;exact ⟨y,List.mem_cons_of_mem _ hy,e⟩
theorem fact_ok (hE:TOk E P) (hm:P.follows .mixedOrders=true) (hF:FOk E P) (hZ:CallsOk E P E.Z) {fuel k:Nat} {f:FuncId} {args:List PV} {r:PV} (h:evFact E fuel k f args=some r):FactOk E P ⟨f,args,r⟩:=by
 unfold evFact at h
 split at h
 · rename_i args' ha
   split at h
   · rename_i r0 H' hev
     exact callOk_lift (ev_ok hE hm hF hZ k _ _ _ _ _ hev).1 ha h
   · cases h
 · cases h
theorem FactOk.env {E':Env} (hG:E'.G=E.G) (hI:E'.I=E.I:=by exact rfl) (hm:E'.mono=true→E.mono=true:=by exact fun h=>h) {x:Fact} (h:FactOk E P x):FactOk E' P x:=fun H=>(h H).env hG hI hm
end
end Go.Vm
namespace Go.Vm
inductive Tri (α:Type) where
 | leaf
 | node (v:Option α) (l r:Tri α)
noncomputable def Tri.get {α:Type} (t:Tri α):Nat→Option α:=
 Tri.rec (motive:=fun _=>Nat→Option α) (fun _=>none)
  (fun v _ _ il ir n=>Nat.rec (motive:=fun _=>Option α) v (fun m _=>Nat.rec (motive:=fun _=>Option α) (il (m / 2)) (fun _ _=>ir (m / 2)) (m % 2)) n) t
structure FnE (P:Program) where
 f:FuncId
 fn:Func
 c:Code
 ok:FnOk P f fn c
 n:Nat.ble fn.ntmps 4000=true
structure TiE (P:Program) where
 t:TypeId
 ti:TI
 ok:tiOf P t=some ti
section
variable {P:Program}
noncomputable def getF (t:Tri (FnE P)) (f:FuncId):Option Func:=match t.get f with
 | some e=>match Nat.beq e.f f with | true=>some e.fn | false=>none
 | none=>none
noncomputable def getT (t:Tri (TiE P)) (f:TypeId):Option TI:=match t.get f with
 | some e=>match Nat.beq e.t f with | true=>some e.ti | false=>none
 | none=>none
theorem getF_ok {t:Tri (FnE P)} {f:FuncId} {fn:Func} {c:Code} (h:getF t f=some fn) (hb:fn.body=some c):FnOk P f fn c∧fn.ntmps≤4000:=by
 unfold getF at h
 split at h
 · rename_i e _
   split at h
   · rename_i he
     cases h
     have:=Nat.eq_of_beq_eq_true he
     subst this
     have hc:=e.ok.body
     rw [hb] at hc
     cases hc
     exact ⟨e.ok,Nat.le_of_ble_eq_true e.n⟩
   · cases h
 · cases h
theorem getT_ok {t:Tri (TiE P)} {f:TypeId} {ti:TI} (h:getT t f=some ti):tiOf P f=some ti:=by
 unfold getT at h
 split at h
 · rename_i e _
   split at h
   · rename_i he
     cases h
     have:=Nat.eq_of_beq_eq_true he
     subst this
     exact e.ok
   · cases h
 · cases h
noncomputable def okFact (E:Env) (fuel k:Nat) (x:Fact):Bool:=match evFact E fuel k x.f x.args with
 | some r=>eqP r x.r
 | none=>false
theorem okFact_ok {E:Env} (hE:TOk E P) (hm:P.follows .mixedOrders=true) (hF:FOk E P) (hZ:CallsOk E P E.Z) {fuel k:Nat} {x:Fact} (h:okFact E fuel k x=true):FactOk E P x:=by
 unfold okFact at h
 split at h
 · rename_i r hr
   have:=eqP_ok _ _ h
   subst this
   exact fact_ok hE hm hF hZ hr
 · cases h
end
end Go.Vm
