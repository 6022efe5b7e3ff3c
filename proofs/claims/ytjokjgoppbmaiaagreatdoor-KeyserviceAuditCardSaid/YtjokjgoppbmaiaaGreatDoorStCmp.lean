/-
  Dotted names, and when one lies within another, as the reference computes them. The size of a term, and the comparison of two numbers, as the reference computes them. Few, budget and Is of the reference. Compare and Same of the reference, at one term twice.
-/
import Derived.Test.YtjokjgoppbmaiaaGreatDoorCrLab
import Derived.Test.YtjokjgoppbmaiaaGreatDoorAwShelf
import Derived.Test.YtjokjgoppbmaiaaGreatDoorFg
set_option maxHeartbeats 64000000
set_option maxRecDepth 100000
namespace Go.Vm.Seat
open Go.Proofs
def okB (i:Nat) (c:UInt8):Bool:=lowB c || (decide (i≠0) && digB c)
def okL:Nat→Bs→Bool
 | _,[]=>true
 | i,c :: r=>okB i c && okL (i+1) r
theorem okL_succ (i:Nat):∀ r:Bs,okL (i+1) r=r.all (fun x=>lowB x || digB x)
 | []=>rfl
 | c :: r => by
   simp only [okL,List.all_cons,okL_succ (i+1) r,okB]
   simp
theorem label_ok (s:Bs):labelB s=(okL 0 s && (decide (1≤s.length) && decide (s.length≤8))):=by
 cases s with
 | nil=>rfl
 | cons c r =>
   simp only [labelB,okL,okL_succ,okB,List.length_cons]
   have e:decide (r.length≤7)=(decide (1≤r.length+1) && decide (r.length+1≤8)):=by
    rw [Bool.eq_iff_iff];simp
   rw [e]
   simp [Bool.and_assoc]
theorem partsC_len (l:List Bs):(partsC l).length=l.length:=by simp [partsC]
theorem drop_consB {s:Bs} {i:Nat} {c:UInt8} (h:s[i]? = some c):s.drop i=c :: s.drop (i+1):=by
 obtain ⟨hi,rfl⟩:=List.getElem?_eq_some_iff.1 h
 exact List.drop_eq_getElem_cons hi
theorem idxS2 {s:Bs} {i:Nat} {c:UInt8} (h:s[i]? = some c):aIndex E0 9 (.str s) (.int .i64 (i:Int))=some (.int .u8 (c.toNat:Int)):=by
 have en:nat? (.int .i64 (i:Int))=some i:=rfl
 have hn:nth s i=some c:=by rw [nth_eq];exact h
 simp only [aIndex,e9s,en,hn]
 rfl
theorem c290 {s:Bs} (hs:s.length≤100000):∀ H,CallOk E0 Tryz.prog 290 [.str s] H (.bool (labelB s)) H:=by
 refine κw tOk fe290.ok rfl ?_
 repeat' first | refine κn ?_ | refine κt ?_ | refine κg ?_ | refine κa ?_ | fail
 refine Wp.while (fun m tm H => ∃ (i : Nat) (base : TM), i + m = s.length ∧ okL 0 s = okL i (s.drop i) ∧
   tm=ovr base [(0,.str s),(3,.int .i64 (i:Int))]∧H=hNil)
  (fun m tm H hI=> ?_) s.length _ _ ⟨0,_,by omega,by simp,ovr_mk ⟨rfl,rfl,trivial⟩,rfl⟩
 obtain ⟨i,base,hi,hf,rfl,rfl⟩:=hI
 by_cases hlt:i < s.length
 · obtain ⟨c, hx⟩ : ∃ c, s[i]? = some c := ⟨s[i], by simp⟩
   have hia:=idxS2 hx
   rw [drop_consB hx] at hf
   simp only [okL] at hf
   have bad:okB i c=false→labelB s=false:=fun h=>by rw [label_ok,hf,h];rfl
   have e0:okB i c=(decide (97≤(c.toNat:Int)) && decide ((c.toNat:Int)≤122) || (!((i:Int) == 0) && (!decide ((c.toNat:Int) < 48) && !decide ((57:Int) < (c.toNat:Int))))):=by
    have a1:decide (97≤c.toNat)=decide (97≤(c.toNat:Int)):=by rw [Bool.eq_iff_iff];simp;omega
    have a2:decide (c.toNat≤122)=decide ((c.toNat:Int)≤122):=by rw [Bool.eq_iff_iff];simp;omega
    have a3:decide (48≤c.toNat)= !decide ((c.toNat:Int) < 48):=by rw [Bool.eq_iff_iff];simp;omega
    have a4:decide (c.toNat≤57)= !decide ((57:Int) < (c.toNat:Int)):=by rw [Bool.eq_iff_iff];simp;omega
    have a5:decide (i≠0)= !((i:Int) == 0):=by rw [Bool.eq_iff_iff];simp
    simp only [okB,lowB,digB,a1,a2,a3,a4,a5]
   repeat' first | refine κn ?_ | refine κk ?_ | refine κX ?_ | refine κt ?_ | refine κb ?_ ?_ | refine κg ?_ | refine κa ?_ | refine κf ?_ | intro hb
   all_goals first
    | (rw [bad (by rw [e0];simp only [*];first | done | rfl)];done)
    | (have e1 : okB i c = true := by (rw [e0]; simp only [*]; first | done | rfl)
       refine LoopI.go (m - 1) (by omega) ⟨i+1,_,by omega,by rw [hf,e1];rfl,ovr_mk ⟨rfl,int_eq (wrap_nat (n:=i+1) (by omega)),trivial⟩,rfl⟩)
    | (exfalso;clear hf bad e0;simp_all;done)
 · have e : i = s.length := by omega
   subst e
   rw [List.drop_length] at hf
   have hl:labelB s=(decide (1≤Int.ofNat s.length) && decide (Int.ofNat s.length≤8)):=by
    rw [label_ok,hf]
    have a1:decide (1≤s.length)=decide (1≤Int.ofNat s.length):=by rw [Bool.eq_iff_iff];simp;omega
    have a2:decide (s.length≤8)=decide (Int.ofNat s.length≤8):=by rw [Bool.eq_iff_iff];simp;omega
    rw [a1,a2];rfl
   repeat' first | refine κn ?_ | refine κk ?_ | refine κt ?_ | refine κb ?_ ?_ | refine κg ?_ | refine κa ?_ | refine κf ?_ | intro hb
   · exfalso;simp at hb
   all_goals (rw [hl];simp only [*];rfl)
def restD (cur r:Bs):List Bs:=match splitD r with
 | []=>[cur]
 | x :: l=>(cur ++ x) :: l
theorem restD_start (r:Bs):restD [] r=splitD r:=by
 unfold restD
 cases h:splitD r with
 | nil=>exact absurd h (splitD_ne r)
 | cons x l=>rfl
theorem restD_nil (cur:Bs):restD cur []= [cur]:=by simp [restD,splitD]
theorem restD_dot (cur r:Bs):restD cur (46 :: r)=cur :: restD [] r:=by
 rw [restD_start]
 simp [restD,splitD]
theorem restD_cons {cur r:Bs} {c:UInt8} (h:c≠46):restD cur (c :: r)=restD (cur ++ [c]) r:=by
 have h2:(c == 46)=false:=by simpa using h
 simp only [restD,splitD,h2]
 cases hs:splitD r with
 | nil=>exact absurd hs (splitD_ne r)
 | cons x l=>simp
def accV:List Bs→PV
 | []=> .nils
 | x :: l=> .sl (.tok l.length) 1 (partsC (x :: l))
def accH:List Bs→Heap
 | []=>hNil
 | _ :: l=>⟨[],0,[l.length],l.length+1⟩
theorem acc_app {acc:List Bs} (cur:Bs) (h:acc.length≤200000):aAppend E0 47 47 (accV acc) (.sl .full 1 [[.str cur]]) (accH acc)=some (accV (acc ++ [cur]),accH (acc ++ [cur])):=by
 have hz:(E0.T 9)=some ⟨.string,1,16,.str []⟩:=e9s
 cases acc with
 | nil =>
   show aAppend E0 47 47 .nils _ _=_
   simp only [aAppend,apElems,e22,hz]
   rfl
 | cons x l =>
   have hf:apFits (partsC (x :: l)).length 1 16=true:=by
    simp only [apFits,Bool.and_eq_true,Nat.ble_eq,partsC_len]
    omega
   have he:apElems E0 47 47 (.sl (.tok l.length) 1 (partsC (x :: l))) (.sl .full 1 [[.str cur]]) ⟨[],0,[l.length],l.length+1⟩=some (1,16,[[.str cur]]):=by
    simp only [apElems,e22,hz]
    rfl
   show aAppend E0 47 47 (.sl (.tok l.length) 1 (partsC (x :: l))) _ ⟨[],0,[l.length],l.length+1⟩=_
   have ht:tokB (elemT E0 47) (partsC (x :: l) ++ [[.str cur]])=true:=tokB_of (by simp [noB,partsC,noC])
   have hn:noB [[PV.str cur]]=true:=rfl
   simp only [aAppend,he,hf,ht,hn,Bool.or_true,Bool.and_self,List.length_cons,List.length_nil,if_true,eraseTok]
   simp [accV,accH,partsC]
def labels71 (s:Bs):PV:=match (splitD s).all labelB with
 | true=> .tup [.sl .none 1 (partsC (splitD s)),.bool (decide ((splitD s).length≤4))]
 | false=> .tup [.nils,.bool false]
theorem c258 {s:Bs} (hs:s.length≤100000):∀ H,CallOk E0 Tryz.prog 258 [.str s] H (labels71 s) H:=by
 have hfr:frz3 0 hNil (labels71 s)=some (labels71 s):=by
  unfold labels71
  cases h:(splitD s).all labelB with
  | false=>rfl
  | true=>rfl
 refine κw tOk fe258.ok hfr ?_
 repeat' first | refine κn ?_ | refine κt ?_ | refine κg ?_ | refine κa ?_ | fail
 refine Wp.while (fun m tm H => ∃ (i : Nat) (acc : List Bs) (cur : Bs) (base : TM), i + m = s.length + 1 ∧ acc.length ≤ i ∧ cur.length ≤ i ∧ acc.all labelB = true ∧
   (i≤s.length→splitD s=acc ++ restD cur (s.drop i))∧(i=s.length+1→splitD s=acc)∧
   tm=ovr base [(0,.str s),(4,accV acc),(5,.str cur),(6,.int .i64 (i:Int))]∧H=accH acc)
  (fun m tm H hI=> ?_) (s.length+1) _ _ ⟨0,[],[],_,by omega,by simp,by simp,rfl,fun _=>(restD_start s).symm,fun h=>absurd h (by omega),ovr_mk ⟨rfl,rfl,rfl,rfl,trivial⟩,rfl⟩
 obtain ⟨i,acc,cur,base,hi,hal,hcl,hall,h1,h2,rfl,rfl⟩:=hI
 have happ:=acc_app (acc:=acc) cur (by omega)
 have hi3:i≤s.length∨i=s.length+1:=by omega
 have bad:∀ rest,splitD s=acc ++ cur :: rest→labelB cur=false→labels71 s= .tup [.nils,.bool false]:=fun rest e h=>by
  have:(splitD s).all labelB=false:=by rw [e];simp [h]
  simp only [labels71,this]
 have hall2:labelB cur=true→(acc ++ [cur]).all labelB=true:=fun h=>by simp [hall,h]
 by_cases hlt:i < s.length
 · obtain ⟨c, hx⟩ : ∃ c, s[i]? = some c := ⟨s[i], by simp⟩
   have hc:=c290 (s:=cur) (by omega)
   have hia:=idxS2 hx
   have hsp:=h1 (by omega)
   rw [drop_consB hx] at hsp
   by_cases hc46:c=46
   · subst hc46
     rw [restD_dot] at hsp
     cases hlb:labelB cur with
     | false =>
       rw [hlb] at hc
       repeat' first | refine κn ?_ | refine κk ?_ | refine κc (hc _) ?_ | refine κX ?_ | refine κt ?_ | refine κb ?_ ?_ | refine κg ?_ | refine κa ?_ | refine κf ?_ | intro hb
       all_goals first
        | (rw [bad _ hsp hlb];rfl)
        | (exfalso;simp at hb;omega)
     | true =>
       rw [hlb] at hc
       repeat' first | refine κn ?_ | refine κk ?_ | refine κc (hc _) ?_ | refine κs ?_ | refine κA ?_ | refine κX ?_ | refine κt ?_ | refine κb ?_ ?_ | refine κg ?_ | refine κa ?_ | intro hb
       all_goals first
        | (refine LoopI.go (m - 1) (by omega) ⟨i+1,acc ++ [cur],[],_,by omega,by simp;omega,by simp,hall2 hlb,fun _=>by rw [hsp];simp,fun h=>absurd h (by omega),ovr_mk ⟨rfl,rfl,rfl,int_eq (wrap_nat (n:=i+1) (by omega)),trivial⟩,rfl⟩)
        | (exfalso;simp at hb;omega)
   · rw [restD_cons hc46] at hsp
     have hsl:aSlice E0 9 (.str s) (some (.int .i64 (i:Int))) (some (.int .i64 (IntKind.i64.wrap ((i:Int)+1)))) none=some (.str [c]):=by
      have en:nat? (.int .i64 (i:Int))=some i:=rfl
      have en2:nat? (.int .i64 ((i+1:Nat):Int))=some (i+1):=rfl
      have ew:IntKind.i64.wrap ((i:Int)+1)=((i+1:Nat):Int):=by
       have:=wrap_nat (n:=i+1) (by omega)
       exact this
      rw [ew]
      simp only [aSlice,e9s,bound,en,en2,if_pos (show i+1≤s.length by omega),if_pos (show i≤i+1 by omega)]
      have e1:i+1 - i=1:=by omega
      rw [List.drop_take,e1,drop_consB hx]
      rfl
     have hne:¬ ((c.toNat:Int)=46):=fun h=>hc46 ((byte46 c).1 h)
     have hcat:aBin E0 .add 9 (.str cur) (.str [c])=some (.str (cur ++ [c])):=by
      simp only [aBin,aStr]
      rw [if_pos (by simp;omega)]
     repeat' first | refine κn ?_ | refine κk ?_ | refine κc (hc _) ?_ | refine κs ?_ | refine κA ?_ | refine κS ?_ | refine κX ?_ | refine κi ?_ | refine κt ?_ | refine κb ?_ ?_ | refine κg ?_ | refine κa ?_ | refine κf ?_ | intro hb
     all_goals first
      | (refine LoopI.go (m - 1) (by omega) ⟨i+1,acc,cur ++ [c],_,by omega,by omega,by simp;omega,hall,fun _=>hsp,fun h=>absurd h (by omega),ovr_mk ⟨rfl,rfl,rfl,int_eq (wrap_nat (n:=i+1) (by omega)),trivial⟩,rfl⟩)
      | (exfalso;clear happ hc bad hall2 h1 h2 hsp hia hsl hcat hfr;simp_all;first | done | omega)
 · by_cases hle : i = s.length
   · have hc := c290 (s := cur) (by omega)
     have hsp:=h1 (by omega)
     have hdr:s.drop i= []:=by rw [hle];simp
     rw [hdr,restD_nil] at hsp
     cases hlb:labelB cur with
     | false =>
       rw [hlb] at hc
       repeat' first | refine κn ?_ | refine κk ?_ | refine κc (hc _) ?_ | refine κt ?_ | refine κb ?_ ?_ | refine κg ?_ | refine κa ?_ | refine κf ?_ | intro hb
       all_goals first
        | (rw [bad [] hsp hlb];rfl)
        | (exfalso;simp at hb;omega)
        | trace_state
     | true =>
       rw [hlb] at hc
       repeat' first | refine κn ?_ | refine κk ?_ | refine κc (hc _) ?_ | refine κs ?_ | refine κA ?_ | refine κt ?_ | refine κb ?_ ?_ | refine κg ?_ | refine κa ?_ | intro hb
       all_goals first
        | (refine LoopI.go (m - 1) (by omega) ⟨i+1,acc ++ [cur],[],_,by omega,by simp;omega,by simp,hall2 hlb,fun h=>absurd h (by omega),fun _=>hsp,ovr_mk ⟨rfl,rfl,rfl,int_eq (wrap_nat (n:=i+1) (by omega)),trivial⟩,rfl⟩)
        | (exfalso;simp at hb;omega)
        | trace_state
   · have hsp := h2 (by omega)
     cases acc with
     | nil=>exact absurd hsp (splitD_ne s)
     | cons x l =>
       have hl:labels71 s= .tup [.sl .none 1 (partsC (x :: l)),.bool (decide ((x :: l).length≤4))]:=by
        simp only [labels71,hsp,hall]
       rw [hl]
       have e4:decide ((x :: l).length≤4)=decide (Int.ofNat (partsC (x :: l)).length≤4):=by
        rw [partsC_len,Bool.eq_iff_iff];simp;omega
       have hno:decide ((i:Int)≤Int.ofNat s.length)=false:=by simp;omega
       repeat' first | refine κn ?_ | refine κk ?_ | refine κt ?_ | refine κb ?_ ?_ | refine κg ?_ | refine κa ?_ | refine κf ?_ | intro hb
       all_goals first
        | (rw [e4,hb];rfl)
        | (exfalso;rename_i hq;rw [hno] at hq;cases hq)
end Go.Vm.Seat
namespace Go.Vm.Seat
open Go.Proofs
theorem frz_tm (k:Int) (nm:List UInt8) (s:Int) (b:Bool) (kids:List Tm):frzL [.int .i64 k,.str nm,.int .i64 s,slV b 4 (cellsL kids)]=some [.int .i64 k,.str nm,.int .i64 s,slV b 4 (cellsL kids)]:=by
 simp only [frzL,frz1_slV]
 rfl
theorem c91 {t:Tm} (ht:t.Ok):t.size < 4611686018427387904→∀ H,CallOk E0 Tryz.prog 91 [.agg t.cells] H (.int .i64 (t.size:Int)) H:=by
 induction ht with
 | @mk k nm s b kids hk hs hn hl hok ih=>
 intro hsz
 refine κw tOk fe91.ok rfl ?_
 repeat' first | refine κn ?_ | refine κg ?_ | refine κa ?_ | fail
 refine Wp.while (fun m tm H=>∃ i base,i+m=kids.length∧tm=ovr base [(1,.ptr 0 4 0 0),(3,.int .i64 ((1+sizeL (kids.take i):Nat):Int)),(4,.int .i64 (i:Int))]∧H=⟨[.cells 4 [[.int .i64 k,.str nm,.int .i64 s,slV b 4 (cellsL kids)]]],0,[],0⟩)
  (fun m tm H hI=> ?_) kids.length _ _ ⟨0,_,by omega,ovr_mk ⟨rfl,rfl,rfl,trivial⟩,rfl⟩
 obtain ⟨i,base,hi,rfl,rfl⟩:=hI
 simp only [Tm.size] at hsz
 unfold maxLen at hl
 by_cases hlt:i < kids.length
 · obtain ⟨t', ht'⟩ : ∃ t', kids[i]? = some t' := ⟨kids[i], by simp⟩
   have hm:t'∈kids:=List.mem_of_getElem? ht'
   have hle:=size_le hm
   have hst:=sizeL_take ht'
   have hsl:=sizeL_take_le kids (i+1)
   have hc:=ih t' hm (by omega)
   obtain ⟨k',nm',s',b',kids'⟩:=t'
   have hj:=cellsL_get ht'
   repeat' first | refine κn ?_ | refine κc (hc _) ?_ | refine κl ?_ | refine κx ?_ | refine κb ?_ ?_ | refine κg ?_ | refine κa ?_ | refine κf ?_ | intro hb
   · refine LoopI.go (m - 1) (by omega) ⟨i + 1, _, by omega, ovr_mk ⟨rfl, ?_, ?_, trivial⟩, rfl⟩
     · refine int_eq ?_
       rw [hst, ← Nat.add_assoc,Int.natCast_add (1+sizeL (kids.take i)), ← Int.natCast_add]
       exact wrap_nat (by omega)
     · exact int_eq (wrap_nat (n:=i+1) (by omega))
   · rw [cellsL_length] at hb;simp at hb;omega
 · have e : i = kids.length := by omega
   subst e
   repeat' first | refine κn ?_ | refine κl ?_ | refine κb ?_ ?_ | refine κg ?_ | refine κa ?_ | refine κf ?_ | intro hb
   · rw [cellsL_length] at hb;simp at hb
   · simp [Tm.size]
end Go.Vm.Seat
namespace Go.Vm.Seat
open Go.Proofs
theorem c94 (k:Int) (nm:List UInt8) (s:Int) (b:Bool) (kids:List Tm) (w:List UInt8):∀ H,CallOk E0 Tryz.prog 94 [.agg [.int .i64 k,.str nm,.int .i64 s,slV b 4 (cellsL kids)],.str w] H (.bool (isF k nm w)) H:=by
 refine κw tOk fe94.ok rfl ?_ (by simp [frzGL,frzG,frz_tm,frz1])
 repeat' first | refine κn ?_ | refine κk ?_ | refine κt ?_ | refine κb ?_ ?_ | refine κg ?_ | refine κa ?_ | refine κf ?_ | intro hb
 all_goals simp_all [isF]
theorem c54 {t:Tm} (ht:t.Ok):∀ n:Int, -9223372036854775808≤n→n≤9223372036854775807→∀ H,CallOk E0 Tryz.prog 54 [.agg t.cells,.int .i64 n] H (.int .i64 (t.budget n)) H:=by
 induction ht with
 | @mk k nm s b kids hk hs hn hl hok ih=>
 intro n hn1 hn2
 refine κw tOk fe54.ok rfl ?_ (by simp [frzGL,frzG,Tm.cells,frz_tm,frz1])
 repeat' first | refine κn ?_ | refine κk ?_ | refine κt ?_ | refine κb ?_ ?_ | refine κg ?_ | refine κa ?_ | refine κf ?_ | intro hb
 · refine int_eq ?_
   simp at hb
   simp [Tm.budget,hb]
 · refine int_eq ?_
   rename_i hb1
   simp at hb hb1
   have:40 < nm.length:=by omega
   simp [Tm.budget,this]
 rename_i hb1
 simp at hb hb1
 have h40:¬ (n≤0∨40 < nm.length):=by omega
 refine Wp.while (fun m tm H=>∃ i base x,i+m=kids.length∧0≤x∧x≤n∧budgetL kids (n - 1)=budgetL (kids.drop i) x∧tm=ovr base [(2,.ptr 0 4 0 0),(1,.int .i64 x),(5,.int .i64 (i:Int))]∧H=⟨[.cells 4 [[.int .i64 k,.str nm,.int .i64 s,slV b 4 (cellsL kids)]]],0,[],0⟩)
  (fun m tm H hI=> ?_) kids.length _ _ ⟨0,_,n - 1,by omega,by omega,by omega,by simp,ovr_mk ⟨rfl,int_eq (IntWalk.i64_in _ (by omega)),rfl,trivial⟩,rfl⟩
 obtain ⟨i,base,x,hi,hx0,hxn,hbud,rfl,rfl⟩:=hI
 unfold maxLen at hl
 by_cases hlt:i < kids.length
 · obtain ⟨t', ht'⟩ : ∃ t', kids[i]? = some t' := ⟨kids[i], by simp⟩
   have hm:t'∈kids:=List.mem_of_getElem? ht'
   have hdr:=drop_cons ht'
   have hc:=ih t' hm x (by omega) (by omega)
   have hbe:=t'.budget_eq x
   obtain ⟨bx,hbx⟩:∃ bx,bx=t'.budget x:=⟨_,rfl⟩
   rw [← hbx] at hc hbe
   rw [hdr] at hbud
   simp only [budgetL, ← hbx] at hbud
   obtain ⟨k',nm',s',b',kids'⟩:=t'
   have hj:=cellsL_get ht'
   repeat' first | refine κn ?_ | refine κc (hc _) ?_ | refine κl ?_ | refine κx ?_ | refine κb ?_ ?_ | refine κg ?_ | refine κa ?_ | refine κf ?_ | intro hb
   · refine int_eq ?_
     rename_i hb2
     have hb:bx < 0:=by simpa using hb
     simp only [Tm.budget,if_neg h40,hbud,if_pos hb]
   · have hb : ¬ bx < 0 := by simpa using hb
     rw [if_neg hb] at hbud
     refine LoopI.go (m - 1) (by omega) ⟨i+1,_,bx,by omega,by omega,by have:=hbe (by omega);omega,hbud,ovr_mk ⟨rfl,rfl,?_,trivial⟩,rfl⟩
     exact int_eq (wrap_nat (n:=i+1) (by omega))
   · rw [cellsL_length] at hb;simp at hb;omega
 · have e : i = kids.length := by omega
   subst e
   repeat' first | refine κn ?_ | refine κl ?_ | refine κb ?_ ?_ | refine κg ?_ | refine κa ?_ | refine κf ?_ | intro hb
   · rw [cellsL_length] at hb;simp at hb
   · refine int_eq ?_
     simp only [Tm.budget,if_neg h40,hbud]
     simp [budgetL]
theorem c24 {l : List Tm} (hok : ∀ t, t ∈ l → t.Ok) (hl : l.length ≤ maxLen) (b : Bool) {n most : Int} (hm1 : -9223372036854775808 ≤ most) (hm2 : most ≤ 9223372036854775807) :
  ∀ H,CallOk E0 Tryz.prog 24 [slV b 4 (cellsL l),.int .i64 n,.int .i64 most] H (.bool (fewF l n most)) H:=by
 refine κw tOk fe24.ok rfl ?_
 repeat' first | refine κn ?_ | refine κl ?_ | refine κt ?_ | refine κb ?_ ?_ | refine κg ?_ | refine κa ?_ | refine κf ?_ | intro hb
 · simp at hb
   rw [cellsL_length] at hb
   simp [fewF,hb]
 rw [cellsL_length] at hb
 simp at hb
 have hnl:¬ n < (l.length:Int):=by omega
 refine Wp.while (fun m tm H=>∃ i base x,i+m=l.length∧ -9223372036854775808≤x∧x≤9223372036854775807∧fewL l most=fewL (l.drop i) x∧tm=ovr base [(0,slV b 4 (cellsL l)),(2,.int .i64 x),(7,.int .i64 (i:Int))]∧H=⟨[],0,[],0⟩)
  (fun m tm H hI=> ?_) l.length _ _ ⟨0,_,most,by omega,by omega,by omega,by simp,ovr_mk ⟨rfl,rfl,rfl,trivial⟩,rfl⟩
 obtain ⟨i,base,x,hi,hx0,hxn,hbud,rfl,rfl⟩:=hI
 unfold maxLen at hl
 by_cases hlt:i < l.length
 · obtain ⟨t', ht'⟩ : ∃ t', l[i]? = some t' := ⟨l[i], by simp⟩
   have hm:t'∈l:=List.mem_of_getElem? ht'
   have hdr:=drop_cons ht'
   have hc:=c54 (hok t' hm) x (by omega) (by omega)
   have hbe:=t'.budget_eq x
   obtain ⟨bx,hbx⟩:∃ bx,bx=t'.budget x:=⟨_,rfl⟩
   rw [← hbx] at hc hbe
   rw [hdr] at hbud
   simp only [fewL, ← hbx] at hbud
   obtain ⟨k',nm',s',b',kids'⟩:=t'
   have hj:=cellsL_get ht'
   repeat' first | refine κn ?_ | refine κc (hc _) ?_ | refine κl ?_ | refine κx ?_ | refine κt ?_ | refine κb ?_ ?_ | refine κg ?_ | refine κa ?_ | refine κf ?_ | intro hb
   · have hb : bx < 0 := by simpa using hb
     simp [fewF,hbud,if_pos hb]
   · have hb : ¬ bx < 0 := by simpa using hb
     rw [if_neg hb] at hbud
     refine LoopI.go (m - 1) (by omega) ⟨i+1,_,bx,by omega,by omega,by have:=hbe (by omega);omega,hbud,ovr_mk ⟨rfl,rfl,?_,trivial⟩,rfl⟩
     exact int_eq (wrap_nat (n:=i+1) (by omega))
   · rw [cellsL_length] at hb;simp at hb;omega
 · have e : i = l.length := by omega
   subst e
   repeat' first | refine κn ?_ | refine κl ?_ | refine κt ?_ | refine κb ?_ ?_ | refine κg ?_ | refine κa ?_ | refine κf ?_ | intro hb
   · rw [cellsL_length] at hb;simp at hb
   · simp [fewF,if_neg hnl,hbud,fewL]
end Go.Vm.Seat
namespace Go.Vm.Seat
open Go.Proofs
end Go.Vm.Seat
