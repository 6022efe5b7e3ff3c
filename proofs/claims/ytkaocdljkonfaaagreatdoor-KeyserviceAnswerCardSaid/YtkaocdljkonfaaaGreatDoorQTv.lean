/-
  Dotted names, and when one lies within another, as the reference computes them. The size of a term, and the comparison of two numbers, as the referenc
-/
import Derived.Test.YtkaocdljkonfaaaGreatDoorQCrLab
set_option maxHeartbeats 64000000
set_option maxRecDepth 100000
namespace Go.Vm.Seat
variable {s:Bs} {i:Nat} {c x:UInt8} {t:Tm} {a b:Bool}
open Go.Proofs
def okB (i:Nat) (c:UInt8):Bool:=Zi7 c||(decide (i≠0)&&Zk7 c)
def okL:Nat→Bs→Bool
 |_,[]=>true
 |i,c::r=>okB i c&&okL (i+1) r
theorem Zeu (i:Nat):∀ r:Bs,okL (i+1) r=r.all (fun x=>Zi7 x||Zk7 x)
 | []=>rfl
 | c :: r => by
   simp only [okL,List.all_cons,Zeu (i+1) r,okB]
   simp
theorem Ze3 (s:Bs):Yr s=(okL 0 s&&(decide (1≤s.length)&&decide (s.length≤8))):=by
 cases s with
 |nil=>rfl
 | cons c r =>
   simp only [Yr,okL,Zeu,okB,List.length_cons]
   have e:decide (r.length≤7)=(decide (1≤r.length+1)&&decide (r.length+1≤8)):=by
    rw [Bool.eq_iff_iff];simp
   rw [e]
   simp [Bool.and_assoc]
theorem Zbb (l:List Bs):(ZI l).length=l.length:=by simp [ZI]
theorem UP (h:s[i]? = some c):s.drop i=c::s.drop (i+1):=by
 obtain ⟨hi,rfl⟩:=List.getElem?_eq_some_iff.1 h
 exact List.drop_eq_getElem_cons hi
theorem ZjB (h:s[i]? = some c):W8 E0 9 (.str s) (.int .i64 (i:Int))=some (.int .u8 (c.toNat:Int)):=by
 have en:nat? (.int .i64 (i:Int))=some i:=rfl
 have hn:nth s i=some c:=by rw [Zy];exact h
 simp only [W8,e9s,en,hn]
 rfl
theorem Zp9 (hs:s.length≤100000):∀ H,CallOk E0 Tryz.prog 203 [.str s] H (.bool (Yr s)) H:=by
 refine Jw tOk fe203.ok rfl ?_
 repeat' first|refine Jt ?_|refine Jo ?_|fail
 refine Wp.while (fun m tm H => ∃ (i : Nat) (base : TM), i + m = s.length ∧ okL 0 s = okL i (s.drop i) ∧
   tm=ovr base [(0,.str s),(3,.int .i64 (i:Int))]∧H=hNil)
  (fun m tm H hI=>?_) s.length _ _ ⟨0,_,by omega,by simp,Zh ⟨rfl,rfl,trivial⟩,rfl⟩
 obtain ⟨i,base,hi,hf,rfl,rfl⟩:=hI
 by_cases hlt:i<s.length
 · obtain ⟨c, hx⟩ : ∃ c, s[i]? = some c := ⟨s[i], by simp⟩
   have hia:=ZjB hx
   rw [UP hx] at hf
   simp only [okL] at hf
   have bad:okB i c=false→Yr s=false:=fun h=>by rw [Ze3,hf,h];rfl
   have e0:okB i c=(decide (97≤(c.toNat:Int))&&decide ((c.toNat:Int)≤122)||(!((i:Int)==0)&&(!decide ((c.toNat:Int)<48)&& !decide ((57:Int)<(c.toNat:Int))))):=by
    have a1:decide (97≤c.toNat)=decide (97≤(c.toNat:Int)):=by rw [Bool.eq_iff_iff];simp;omega
    have a2:decide (c.toNat≤122)=decide ((c.toNat:Int)≤122):=by rw [Bool.eq_iff_iff];simp;omega
    have a3:decide (48≤c.toNat)= !decide ((c.toNat:Int)<48):=by rw [Bool.eq_iff_iff];simp;omega
    have a4:decide (c.toNat≤57)= !decide ((57:Int)<(c.toNat:Int)):=by rw [Bool.eq_iff_iff];simp;omega
    have a5:decide (i≠0)= !((i:Int)==0):=by rw [Bool.eq_iff_iff];simp
    simp only [okB,Zi7,Zk7,a1,a2,a3,a4,a5]
   repeat' first|refine Jk ?_|refine JX ?_|refine Jt ?_|refine Jb ?_ ?_|refine Jo ?_|intro hb
   all_goals first
    | (rw [bad (by rw [e0];simp only [*];first|done|rfl)];done)
    | (have e1 : okB i c = true := by (rw [e0]; simp only [*]; first | done | rfl)
       refine LoopI.go (m-1) (by omega) ⟨i+1,_,by omega,by rw [hf,e1];rfl,Zh ⟨rfl,Zi (Zf (n:=i+1) (by omega)),trivial⟩,rfl⟩)
    | (exfalso;clear hf bad e0;simp_all;done)
 · have e : i = s.length := by omega
   subst e
   rw [List.drop_length] at hf
   have hl:Yr s=(decide (1≤Int.ofNat s.length)&&decide (Int.ofNat s.length≤8)):=by
    rw [Ze3,hf]
    have a1:decide (1≤s.length)=decide (1≤Int.ofNat s.length):=by rw [Bool.eq_iff_iff];simp;omega
    have a2:decide (s.length≤8)=decide (Int.ofNat s.length≤8):=by rw [Bool.eq_iff_iff];simp;omega
    rw [a1,a2];rfl
   repeat' first|refine Jk ?_|refine Jt ?_|refine Jb ?_ ?_|refine Jo ?_|intro hb
   · exfalso;simp at hb
   all_goals (rw [hl];simp only [*];rfl)
def Q4 (cur r:Bs):List Bs:=match ZE r with
 | []=>[cur]
 |x::l=>(cur++x)::l
theorem QR (r:Bs):Q4 [] r=ZE r:=by
 unfold Q4
 cases h:ZE r with
 |nil=>exact absurd h (WJ r)
 |cons x l=>rfl
theorem Zip (cur:Bs):Q4 cur []= [cur]:=by simp [Q4,ZE]
theorem Ziq (cur r:Bs):Q4 cur (46::r)=cur::Q4 [] r:=by
 rw [QR]
 simp [Q4,ZE]
theorem Zge {cur r:Bs} (h:c≠46):Q4 cur (c::r)=Q4 (cur++ [c]) r:=by
 have h2:(c==46)=false:=by simpa using h
 simp only [Q4,ZE,h2]
 cases hs:ZE r with
 |nil=>exact absurd hs (WJ r)
 |cons x l=>simp
def ZnB:List Bs→PV
 | []=> .nils
 |x::l=> .sl (.tok l.length) 1 (ZI (x::l))
def Znw:List Bs→Heap
 | []=>hNil
 |_::l=>⟨[],0,[l.length],l.length+1⟩
theorem Zlk {acc:List Bs} (cur:Bs) (h:acc.length≤200000):Yb E0 87 87 (ZnB acc) (.sl .full 1 [[.str cur]]) (Znw acc)=some (ZnB (acc++ [cur]),Znw (acc++ [cur])):=by
 have hz:(E0.T 9)=some ⟨.string,1,16,.str []⟩:=e9s
 cases acc with
 | nil =>
   show Yb E0 87 87 .nils _ _=_
   simp only [Yb,X3,e22,hz]
   rfl
 | cons x l =>
   have hf:WG (ZI (x::l)).length 1 16=true:=by
    simp only [WG,Bool.and_eq_true,Nat.ble_eq,Zbb]
    omega
   have he:X3 E0 87 87 (.sl (.tok l.length) 1 (ZI (x::l))) (.sl .full 1 [[.str cur]]) ⟨[],0,[l.length],l.length+1⟩=some (1,16,[[.str cur]]):=by
    simp only [X3,e22,hz]
    rfl
   show Yb E0 87 87 (.sl (.tok l.length) 1 (ZI (x::l))) _ ⟨[],0,[l.length],l.length+1⟩=_
   have ht:ZaN (ZcX E0 87) (ZI (x::l)++ [[.str cur]])=true:=QU (by simp [noB,ZI,noC])
   have hn:noB [[PV.str cur]]=true:=rfl
   simp only [Yb,he,hf,ht,hn,Bool.or_true,Bool.and_self,List.length_cons,List.length_nil,if_true,XP]
   simp [ZnB,Znw,ZI]
def XE (s:Bs):PV:=match (ZE s).all Yr with
 |true=> .tup [.sl .none 1 (ZI (ZE s)),.bool (decide ((ZE s).length≤4))]
 |false=> .tup [.nils,.bool false]
theorem ZqD (hs:s.length≤100000):∀ H,CallOk E0 Tryz.prog 164 [.str s] H (XE s) H:=by
 have hfr:frz3 0 hNil (XE s)=some (XE s):=by
  unfold XE
  cases h:(ZE s).all Yr with
  | false=>rfl
  | true=>rfl
 refine Jw tOk fe164.ok hfr ?_
 repeat' first|refine Jt ?_|refine Jo ?_|fail
 refine Wp.while (fun m tm H => ∃ (i : Nat) (acc : List Bs) (cur : Bs) (base : TM), i + m = s.length + 1 ∧ acc.length ≤ i ∧ cur.length ≤ i ∧ acc.all Yr = true ∧
   (i≤s.length→ZE s=acc++Q4 cur (s.drop i))∧(i=s.length+1→ZE s=acc)∧
   tm=ovr base [(0,.str s),(4,ZnB acc),(5,.str cur),(6,.int .i64 (i:Int))]∧H=Znw acc)
  (fun m tm H hI=>?_) (s.length+1) _ _ ⟨0,[],[],_,by omega,by simp,by simp,rfl,fun _=>(QR s).symm,fun h=>absurd h (by omega),Zh ⟨rfl,rfl,rfl,rfl,trivial⟩,rfl⟩
 obtain ⟨i,acc,cur,base,hi,hal,hcl,hall,h1,h2,rfl,rfl⟩:=hI
 have happ:=Zlk (acc:=acc) cur (by omega)
 have hi3:i≤s.length∨i=s.length+1:=by omega
 have bad:∀ rest,ZE s=acc++cur::rest→Yr cur=false→XE s= .tup [.nils,.bool false]:=fun rest e h=>by
  have:(ZE s).all Yr=false:=by rw [e];simp [h]
  simp only [XE,this]
 have hall2:Yr cur=true→(acc++ [cur]).all Yr=true:=fun h=>by simp [hall,h]
 by_cases hlt:i<s.length
 · obtain ⟨c, hx⟩ : ∃ c, s[i]? = some c := ⟨s[i], by simp⟩
   have hc:=Zp9 (s:=cur) (by omega)
   have hia:=ZjB hx
   have hsp:=h1 (by omega)
   rw [UP hx] at hsp
   by_cases hc46:c=46
   · subst hc46
     rw [Ziq] at hsp
     cases hlb:Yr cur with
     | false =>
       rw [hlb] at hc
       repeat' first|refine Jk ?_|refine Jc (hc _) ?_|refine JX ?_|refine Jt ?_|refine Jb ?_ ?_|refine Jo ?_|intro hb
       all_goals first
        | (rw [bad _ hsp hlb];rfl)
        | (exfalso;simp at hb;omega)
     | true =>
       rw [hlb] at hc
       repeat' first|refine Jk ?_|refine Jc (hc _) ?_|refine Js ?_|refine JA ?_|refine JX ?_|refine Jt ?_|refine Jb ?_ ?_|refine Jo ?_|intro hb
       all_goals first
        | (refine LoopI.go (m-1) (by omega) ⟨i+1,acc++ [cur],[],_,by omega,by simp;omega,by simp,hall2 hlb,fun _=>by rw [hsp];simp,fun h=>absurd h (by omega),Zh ⟨rfl,rfl,rfl,Zi (Zf (n:=i+1) (by omega)),trivial⟩,rfl⟩)
        | (exfalso;simp at hb;omega)
   · rw [Zge hc46] at hsp
     have hsl:ZW E0 9 (.str s) (some (.int .i64 (i:Int))) (some (.int .i64 (IntKind.i64.wrap ((i:Int)+1)))) none=some (.str [c]):=by
      have en:nat? (.int .i64 (i:Int))=some i:=rfl
      have en2:nat? (.int .i64 ((i+1:Nat):Int))=some (i+1):=rfl
      have ew:IntKind.i64.wrap ((i:Int)+1)=((i+1:Nat):Int):=by
       have:=Zf (n:=i+1) (by omega)
       exact this
      rw [ew]
      simp only [ZW,e9s,Y3,en,en2,if_pos (show i+1≤s.length by omega),if_pos (show i≤i+1 by omega)]
      have e1:i+1-i=1:=by omega
      rw [List.drop_take,e1,UP hx]
      rfl
     have hne:¬ ((c.toNat:Int)=46):=fun h=>hc46 ((Zhh c).1 h)
     have hcat:ZQ E0 .add 9 (.str cur) (.str [c])=some (.str (cur++ [c])):=by
      simp only [ZQ,Zfj]
      rw [if_pos (by simp;omega)]
     repeat' first|refine Jk ?_|refine Jc (hc _) ?_|refine Js ?_|refine JA ?_|refine JS ?_|refine JX ?_|refine Ji ?_|refine Jt ?_|refine Jb ?_ ?_|refine Jo ?_|intro hb
     all_goals first
      | (refine LoopI.go (m-1) (by omega) ⟨i+1,acc,cur++ [c],_,by omega,by omega,by simp;omega,hall,fun _=>hsp,fun h=>absurd h (by omega),Zh ⟨rfl,rfl,rfl,Zi (Zf (n:=i+1) (by omega)),trivial⟩,rfl⟩)
      | (exfalso;clear happ hc bad hall2 h1 h2 hsp hia hsl hcat hfr;simp_all;first|done|omega)
 · by_cases hle : i = s.length
   · have hc := Zp9 (s := cur) (by omega)
     have hsp:=h1 (by omega)
     have hdr:s.drop i= []:=by rw [hle];simp
     rw [hdr,Zip] at hsp
     cases hlb:Yr cur with
     | false =>
       rw [hlb] at hc
       repeat' first|refine Jk ?_|refine Jc (hc _) ?_|refine Jt ?_|refine Jb ?_ ?_|refine Jo ?_|intro hb
       all_goals first
        | (rw [bad [] hsp hlb];rfl)
        | (exfalso;simp at hb;omega)
        | trace_state
     | true =>
       rw [hlb] at hc
       repeat' first|refine Jk ?_|refine Jc (hc _) ?_|refine Js ?_|refine JA ?_|refine Jt ?_|refine Jb ?_ ?_|refine Jo ?_|intro hb
       all_goals first
        | (refine LoopI.go (m-1) (by omega) ⟨i+1,acc++ [cur],[],_,by omega,by simp;omega,by simp,hall2 hlb,fun h=>absurd h (by omega),fun _=>hsp,Zh ⟨rfl,rfl,rfl,Zi (Zf (n:=i+1) (by omega)),trivial⟩,rfl⟩)
        | (exfalso;simp at hb;omega)
        | trace_state
   · have hsp := h2 (by omega)
     cases acc with
     | nil=>exact absurd hsp (WJ s)
     | cons x l =>
       have hl:XE s= .tup [.sl .none 1 (ZI (x::l)),.bool (decide ((x::l).length≤4))]:=by
        simp only [XE,hsp,hall]
       rw [hl]
       have e4:decide ((x::l).length≤4)=decide (Int.ofNat (ZI (x::l)).length≤4):=by
        rw [Zbb,Bool.eq_iff_iff];simp;omega
       have hno:decide ((i:Int)≤Int.ofNat s.length)=false:=by simp;omega
       repeat' first|refine Jk ?_|refine Jt ?_|refine Jb ?_ ?_|refine Jo ?_|intro hb
       all_goals first
        | (rw [e4,hb];rfl)
        | (exfalso;rename_i hq;rw [hno] at hq;cases hq)
open Go.Proofs
theorem Va (k:Int) (nm:List UInt8) (s:Int) (b:Bool) (kids:List Tm):Vc [.int .i64 k,.str nm,.int .i64 s,slV b 4 (Za kids)]=some [.int .i64 k,.str nm,.int .i64 s,slV b 4 (Za kids)]:=by
 simp only [Vc,Z5]
 rfl
theorem ZsV (ht:t.Ok):t.size<4611686018427387904→∀ H,CallOk E0 Tryz.prog 115 [.agg t.cells] H (.int .i64 (t.size:Int)) H:=by
 induction ht with
 | @mk k nm s b kids hk hs hn hl hok ih=>
 intro hsz
 refine Jw tOk fe115.ok rfl ?_
 repeat' first|refine Jo ?_|fail
 refine Wp.while (fun m tm H=>∃ i base,i+m=kids.length∧tm=ovr base [(1,.ptr 0 4 0 0),(3,.int .i64 ((1+Zz (kids.take i):Nat):Int)),(4,.int .i64 (i:Int))]∧H=⟨[.cells 4 [[.int .i64 k,.str nm,.int .i64 s,slV b 4 (Za kids)]]],0,[],0⟩)
  (fun m tm H hI=>?_) kids.length _ _ ⟨0,_,by omega,Zh ⟨rfl,rfl,rfl,trivial⟩,rfl⟩
 obtain ⟨i,base,hi,rfl,rfl⟩:=hI
 simp only [Tm.size] at hsz
 unfold maxLen at hl
 by_cases hlt:i<kids.length
 · obtain ⟨t', ht'⟩ : ∃ t', kids[i]? = some t' := ⟨kids[i], by simp⟩
   have hm:t'∈kids:=List.mem_of_getElem? ht'
   have hle:=Xm hm
   have hst:=VJ ht'
   have hsl:=Xj kids (i+1)
   have hc:=ih t' hm (by omega)
   obtain ⟨k',nm',s',b',kids'⟩:=t'
   have hj:=Zl ht'
   repeat' first|refine Jc (hc _) ?_|refine Jl ?_|refine Jx ?_|refine Jb ?_ ?_|refine Jo ?_|intro hb
   · refine LoopI.go (m - 1) (by omega) ⟨i + 1, _, by omega, Zh ⟨rfl, ?_, ?_, trivial⟩, rfl⟩
     · refine Zi ?_
       rw [hst, ← Nat.add_assoc,Int.natCast_add (1+Zz (kids.take i)), ← Int.natCast_add]
       exact Zf (by omega)
     · exact Zi (Zf (n:=i+1) (by omega))
   · rw [Zb] at hb;simp at hb;omega
 · have e : i = kids.length := by omega
   subst e
   repeat' first|refine Jl ?_|refine Jb ?_ ?_|refine Jo ?_|intro hb
   · rw [Zb] at hb;simp at hb
   · simp [Tm.size]
open Go.Proofs
theorem Znp (k:Int) (nm:List UInt8) (s:Int) (b:Bool) (kids:List Tm) (w:List UInt8):∀ H,CallOk E0 Tryz.prog 120 [.agg [.int .i64 k,.str nm,.int .i64 s,slV b 4 (Za kids)],.str w] H (.bool (isF k nm w)) H:=by
 refine Jw tOk fe120.ok rfl ?_ (by simp [ZZ,frzG,Va,frz1])
 repeat' first|refine Jk ?_|refine Jt ?_|refine Jb ?_ ?_|refine Jo ?_|intro hb
 all_goals simp_all [isF]
theorem c66 (ht:t.Ok):∀ n:Int, -9223372036854775808≤n→n≤9223372036854775807→∀ H,CallOk E0 Tryz.prog 66 [.agg t.cells,.int .i64 n] H (.int .i64 (t.budget n)) H:=by
 induction ht with
 | @mk k nm s b kids hk hs hn hl hok ih=>
 intro n hn1 hn2
 refine Jw tOk fe66.ok rfl ?_ (by simp [ZZ,frzG,Tm.cells,Va,frz1])
 repeat' first|refine Jk ?_|refine Jt ?_|refine Jb ?_ ?_|refine Jo ?_|intro hb
 · refine Zi ?_
   simp at hb
   simp [Tm.budget,hb]
 · refine Zi ?_
   rename_i hb1
   simp at hb hb1
   have:40<nm.length:=by omega
   simp [Tm.budget,this]
 rename_i hb1
 simp at hb hb1
 have h40:¬ (n≤0∨40<nm.length):=by omega
 refine Wp.while (fun m tm H=>∃ i base x,i+m=kids.length∧0≤x∧x≤n∧Wo kids (n-1)=Wo (kids.drop i) x∧tm=ovr base [(2,.ptr 0 4 0 0),(1,.int .i64 x),(5,.int .i64 (i:Int))]∧H=⟨[.cells 4 [[.int .i64 k,.str nm,.int .i64 s,slV b 4 (Za kids)]]],0,[],0⟩)
  (fun m tm H hI=>?_) kids.length _ _ ⟨0,_,n-1,by omega,by omega,by omega,by simp,Zh ⟨rfl,Zi (IntWalk.i64_in _ (by omega)),rfl,trivial⟩,rfl⟩
 obtain ⟨i,base,x,hi,hx0,hxn,hbud,rfl,rfl⟩:=hI
 unfold maxLen at hl
 by_cases hlt:i<kids.length
 · obtain ⟨t', ht'⟩ : ∃ t', kids[i]? = some t' := ⟨kids[i], by simp⟩
   have hm:t'∈kids:=List.mem_of_getElem? ht'
   have hdr:=ZN ht'
   have hc:=ih t' hm x (by omega) (by omega)
   have hbe:=t'.budget_eq x
   obtain ⟨bx,hbx⟩:∃ bx,bx=t'.budget x:=⟨_,rfl⟩
   rw [← hbx] at hc hbe
   rw [hdr] at hbud
   simp only [Wo, ← hbx] at hbud
   obtain ⟨k',nm',s',b',kids'⟩:=t'
   have hj:=Zl ht'
   repeat' first|refine Jc (hc _) ?_|refine Jl ?_|refine Jx ?_|refine Jb ?_ ?_|refine Jo ?_|intro hb
   · refine Zi ?_
     rename_i hb2
     have hb:bx<0:=by simpa using hb
     simp only [Tm.budget,if_neg h40,hbud,if_pos hb]
   · have hb : ¬ bx < 0 := by simpa using hb
     rw [if_neg hb] at hbud
     refine LoopI.go (m-1) (by omega) ⟨i+1,_,bx,by omega,by omega,by have:=hbe (by omega);omega,hbud,Zh ⟨rfl,rfl,?_,trivial⟩,rfl⟩
     exact Zi (Zf (n:=i+1) (by omega))
   · rw [Zb] at hb;simp at hb;omega
 · have e : i = kids.length := by omega
   subst e
   repeat' first|refine Jl ?_|refine Jb ?_ ?_|refine Jo ?_|intro hb
   · rw [Zb] at hb;simp at hb
   · refine Zi ?_
     simp only [Tm.budget,if_neg h40,hbud]
     simp [Wo]
theorem c25 {l : List Tm} (hok : ∀ t, t ∈ l → t.Ok) (hl : l.length ≤ maxLen) (b : Bool) {n most : Int} (hm1 : -9223372036854775808 ≤ most) (hm2 : most ≤ 9223372036854775807) :
  ∀ H,CallOk E0 Tryz.prog 25 [slV b 4 (Za l),.int .i64 n,.int .i64 most] H (.bool (ZgL l n most)) H:=by
 refine Jw tOk fe25.ok rfl ?_
 repeat' first|refine Jl ?_|refine Jt ?_|refine Jb ?_ ?_|refine Jo ?_|intro hb
 · simp at hb
   rw [Zb] at hb
   simp [ZgL,hb]
 rw [Zb] at hb
 simp at hb
 have hnl:¬ n<(l.length:Int):=by omega
 refine Wp.while (fun m tm H=>∃ i base x,i+m=l.length∧ -9223372036854775808≤x∧x≤9223372036854775807∧ZlZ l most=ZlZ (l.drop i) x∧tm=ovr base [(0,slV b 4 (Za l)),(2,.int .i64 x),(7,.int .i64 (i:Int))]∧H=⟨[],0,[],0⟩)
  (fun m tm H hI=>?_) l.length _ _ ⟨0,_,most,by omega,by omega,by omega,by simp,Zh ⟨rfl,rfl,rfl,trivial⟩,rfl⟩
 obtain ⟨i,base,x,hi,hx0,hxn,hbud,rfl,rfl⟩:=hI
 unfold maxLen at hl
 by_cases hlt:i<l.length
 · obtain ⟨t', ht'⟩ : ∃ t', l[i]? = some t' := ⟨l[i], by simp⟩
   have hm:t'∈l:=List.mem_of_getElem? ht'
   have hdr:=ZN ht'
   have hc:=c66 (hok t' hm) x (by omega) (by omega)
   have hbe:=t'.budget_eq x
   obtain ⟨bx,hbx⟩:∃ bx,bx=t'.budget x:=⟨_,rfl⟩
   rw [← hbx] at hc hbe
   rw [hdr] at hbud
   simp only [ZlZ, ← hbx] at hbud
   obtain ⟨k',nm',s',b',kids'⟩:=t'
   have hj:=Zl ht'
   repeat' first|refine Jc (hc _) ?_|refine Jl ?_|refine Jx ?_|refine Jt ?_|refine Jb ?_ ?_|refine Jo ?_|intro hb
   · have hb : bx < 0 := by simpa using hb
     simp [ZgL,hbud,if_pos hb]
   · have hb : ¬ bx < 0 := by simpa using hb
     rw [if_neg hb] at hbud
     refine LoopI.go (m-1) (by omega) ⟨i+1,_,bx,by omega,by omega,by have:=hbe (by omega);omega,hbud,Zh ⟨rfl,rfl,?_,trivial⟩,rfl⟩
     exact Zi (Zf (n:=i+1) (by omega))
   · rw [Zb] at hb;simp at hb;omega
 · have e : i = l.length := by omega
   subst e
   repeat' first|refine Jl ?_|refine Jt ?_|refine Jb ?_ ?_|refine Jo ?_|intro hb
   · rw [Zb] at hb;simp at hb
   · simp [ZgL,if_neg hnl,hbud,ZlZ]
open Go.Proofs
open Go.Proofs
theorem Zd9 (h:a=true↔b=true):PV.bool a=PV.bool b:=by rw [Bool.eq_iff_iff.2 h]
theorem Zql (c:Int):∀ H,CallOk E0 Tryz.prog 209 [.int .u8 c] H (.bool (Zee c)) H:=by
 refine Jw tOk fe209.ok rfl ?_
 repeat' first|refine Jk ?_|refine Jt ?_|refine Jb ?_ ?_|refine Jo ?_|intro hb
 all_goals
  refine Zd9 ?_
  simp [Zee,ZeN,ZkE] at *
  try omega
theorem ZqS (c:Int):∀ H,CallOk E0 Tryz.prog 126 [.int .u8 c] H (.bool (ZeN c)) H:=by
 refine Jw tOk fe126.ok rfl ?_
 repeat' first|refine Jk ?_|refine Jt ?_|refine Jb ?_ ?_|refine Jo ?_|intro hb
 all_goals
  refine Zd9 ?_
  simp [ZeN] at *
  try omega
theorem c127 (c:Int):∀ H,CallOk E0 Tryz.prog 127 [.int .u8 c] H (.bool (ZkE c)) H:=by
 refine Jw tOk fe127.ok rfl ?_
 repeat' first|refine Jk ?_|refine Jt ?_|refine Jb ?_ ?_|refine Jo ?_|intro hb
 all_goals
  refine Zd9 ?_
  simp [ZkE] at *
  try omega
theorem VT {s:List UInt8} (h:s[i]? = some x) (hx:WU x=false):s.all WU=false:=by
 rw [List.all_eq_false]
 exact ⟨x,List.mem_of_getElem? h,by simp [hx]⟩
theorem Za4 (c:UInt8) (r:List UInt8):Ve (c::r)=(decide ((c::r).length≤24)&&(ZeN (Int.ofNat c.toNat)&&(c::r).all WU)):=rfl
theorem ZgH {c:Int} (h:Zee c=true) (h1:¬ (48≤c∧c≤57)) (h2:c≠95) (h3:c≠35):ZeN c=true:=by
 simp [Zee,ZeN,ZkE] at *
 omega
theorem eTs:E0.T 9=some ⟨.string,1,16,.str []⟩:=rfl
theorem ZnI {s:List UInt8} (h:s[i]? = some c):W8 E0 9 (.str s) (.int .i64 (i:Int))=some (.int .u8 (c.toNat:Int)):=by
 have en:nat? (.int .i64 (i:Int))=some i:=rfl
 have hn:nth s i=some c:=by rw [Zy];exact h
 simp only [W8,eTs,en,hn]
 rfl
theorem Zap {c:Bool} (h:a=false∨b=false∨c=false):PV.bool false=PV.bool (a&&(b&&c)):=by
 rcases h with rfl|rfl|rfl<;>simp
theorem Zeq {s:List UInt8} (h:s[i]? = some x) (hx:WU x=true) (ht:(s.take i).all WU=true):(s.take (i+1)).all WU=true:=by
 rw [List.take_add_one,h]
 simp [List.all_append,ht,hx]
theorem c168 (s:List UInt8) (hs:s.length≤maxLen):∀ H,CallOk E0 Tryz.prog 168 [.str s] H (.bool (Ve s)) H:=by
 refine Jw tOk fe168.ok rfl ?_
 cases s with
 | nil =>
   repeat' first|refine Jk ?_|refine Jt ?_|refine Jo ?_|fail
   all_goals first
    | rfl
    | (exfalso;simp at hb;done)
 | cons c r =>
   have hc:=Zql (Int.ofNat c.toNat)
   obtain ⟨S,hS⟩:∃ S,S=Zee (Int.ofNat c.toNat):=⟨_,rfl⟩
   have hj:=ZnI (show (c::r)[0]? = some c from rfl)
   rw [Za4]
   obtain ⟨s,hss⟩:∃ s,s=c::r:=⟨_,rfl⟩
   rw [← hss] at hs hj ⊢
   have hne:¬ s= []:=by rw [hss];simp
   have hm:c∈s:=by rw [hss];simp
   have hall:S=false→s.all WU=false:=fun h=>by
    rw [List.all_eq_false]
    exact ⟨c,hm,by rw [show WU c=S from hS.symm,h];simp⟩
   rw [← hS] at hc
   repeat' first|refine Jk ?_|refine Jc (hc _) ?_|refine JX ?_|refine Jt ?_|refine Jb ?_ ?_|refine Jo ?_|intro hb
   all_goals first
    | (exfalso;simp at hb;exact hne hb)
    | (refine Zap (.inl ?_);simp at hb;simp;omega)
    | (refine Zap (.inr (.inr (hall (by simpa using hb))));done)
    | (refine Zap (.inr (.inl ?_));clear hc hall hj hS hm hne hss;simp [ZeN] at *;omega)
    | skip
   all_goals
    have f1:S=true:=by simpa using ‹(!S)=false›
    have f2:¬ (48≤(c.toNat:Int)∧(c.toNat:Int)≤57):=by
     first
      | (have:= ‹decide ((c.toNat:Int)≤57)=false›;simp at this;omega)
      | (have:= ‹decide (48≤(c.toNat:Int))=false›;simp at this;omega)
    have f3:(c.toNat:Int)≠95:=by simpa using ‹((c.toNat:Int)==95)=false›
    have f4:(c.toNat:Int)≠35:=by simpa using ‹((c.toNat:Int)==35)=false›
    have hlt:ZeN (Int.ofNat c.toNat)=true:=ZgH (hS ▸ f1) f2 f3 f4
    have h24:s.length≤24:=by
     have:= ‹decide (24<Int.ofNat s.length)=false›
     simp at this;omega
    rw [show (decide (s.length≤24)&&(ZeN (Int.ofNat c.toNat)&&s.all WU))=s.all WU by simp only [h24,hlt,decide_true,Bool.true_and]]
    refine Wp.while (fun m tm H=>∃ (i:Nat),∃ base,i+m=s.length∧(s.take i).all WU=true∧tm=ovr base [(0,.str s),(38,.int .i64 (s.length:Int)),(39,.int .i64 (i:Int))]∧H=⟨[],0,[],0⟩)
     (fun m tm H hI=>?_) s.length _ _ ⟨0,_,by omega,by simp,Zh ⟨rfl,rfl,rfl,trivial⟩,rfl⟩
    clear hc hall hj
    obtain ⟨i,base,hi,hall,rfl,rfl⟩:=hI
    by_cases hlt2:i<s.length
    · obtain ⟨d, hd⟩ : ∃ d, s[i]? = some d := ⟨s[i], by simp⟩
      have hj:=ZnI hd
      have hc:=Zql (Int.ofNat d.toNat)
      obtain ⟨D,hD⟩:∃ D,D=Zee (Int.ofNat d.toNat):=⟨_,rfl⟩
      rw [← hD] at hc
      repeat' first|refine Jc (hc _) ?_|refine JX ?_|refine Jt ?_|refine Jb ?_ ?_|refine Jo ?_|intro hb
      · rw [VT hd (by rw [show WU d=D from hD.symm];simpa using hb)]
      · refine LoopI.go (m - 1) (by omega) ⟨i + 1, _, by omega, Zeq hd (by rw [show WU d = D from hD.symm]; simpa using hb) hall, Zh ⟨rfl, rfl, ?_, trivial⟩, rfl⟩
        exact Zi (Zf (n:=i+1) (by unfold maxLen at hs;omega))
      · exfalso;simp at hb;omega
    · have e : i = s.length := by omega
      subst e
      repeat' first|refine Jt ?_|refine Jb ?_ ?_|refine Jo ?_|intro hb
      · exfalso;simp at hb
      · rw [← hall,List.take_length]
end Go.Vm.Seat
