/-
  Dotted names, and when one lies within another, as the program computes them. Dotted names, and when one lies within another, as the reference compute
-/
import Derived.Test.YtkaocdljkonfaaaGreatDoorCrTrim
set_option maxHeartbeats 64000000
set_option maxRecDepth 100000
namespace Go.Vm.Seat
variable {s:Bs} {i:Nat} {c x:UInt8} {t:Tm} {a b:Bool}
open Go.Proofs
theorem Zuk (hs:s.length≤100000):∀ H,CallOk E0 Tryz.prog 235 [.str s,.str [46]] H (.sl .none 1 (ZJ (ZE s))) H:=by
 have hc:=ZuB hs
 refine Jw tOk fe235.ok rfl ?_
 repeat' first|refine Jc (hc _) ?_|refine Jo ?_|fail
 all_goals rfl
theorem Zn2 (c:UInt8):alB c=(ZkX c||Zl8 c):=by
 simp only [alB,alN,ZkX,Zl8]
 congr 1<;>(rw [Bool.eq_iff_iff];simp)
theorem ZgG (c:UInt8) (r:Bs):Yz (c::r)=true↔¬ (8<(c::r).length)∧97≤c.toNat∧c.toNat≤122∧(c::r).all alB=true:=by
 have e:alB=fun x=>ZkX x||Zl8 x:=funext Zn2
 rw [e]
 simp only [Yz,ZkX,Bool.and_eq_true,decide_eq_true_eq,List.all_cons,List.length_cons]
 constructor
 · rintro ⟨⟨h1, h2⟩, h3, h4⟩
   exact ⟨by omega,h1,h2,by simp [h1,h2],h3⟩
 · rintro ⟨h1, h2, h3, _, h5⟩
   exact ⟨⟨h2,h3⟩,h5,by omega⟩
def Ud (s:Bs):PV:=match ZK s with|true=> .sl .none 1 (ZJ (ZE s))|false=> .nils
theorem e22:E0.T 87=some ⟨.slice 9,1,24,.nils⟩:=by kernel_rfl
theorem ZqU {l:List Bs} {x:Bs} (h:l[i]? = some x):Zp E0 87 (.sl .none 1 (ZJ l)) (.int .i64 (i:Int))=some (.fptr [.str x] 0):=by
 have en:nat? (.int .i64 (i:Int))=some i:=rfl
 have hn:nth (ZJ l) i=some [.str x]:=by rw [ZA];simp [ZJ,h]
 simp only [Zp,e22,en,e9s,if_true,hn]
theorem Zhi (s:Bs):∀ x,x∈ZE s→x.length≤s.length:=by
 induction s with
 |nil=>intro x hx;simp [ZE] at hx;subst hx;simp
 | cons c r ih =>
   intro x hx
   simp only [ZE] at hx
   split at hx
   · rcases List.mem_cons.1 hx with rfl | hx
     · simp
     · have:=ih x hx;simp;omega
   · cases hs : ZE r with
     | nil=>exact absurd hs (WK r)
     | cons y l =>
       rw [hs] at hx ih
       rcases List.mem_cons.1 hx with rfl|hx
       · have:=ih y (by simp);simp;omega
       · have:=ih x (by simp [hx]);simp;omega
theorem ZsG (hs:s.length≤100000):∀ H,CallOk E0 Tryz.prog 199 [.str s] H (Ud s) H:=by
 have hfr:frz3 0 hNil (Ud s)=some (Ud s):=by unfold Ud;cases ZK s<;>rfl
 refine Zr (own:=fun _=>false) tOk fe199.ok rfl hfr ?_
 have hsp:=Zuk hs
 have hlen:=Zhi s
 obtain ⟨l,hl⟩:∃ l,l=ZE s:=⟨_,rfl⟩
 have hdot:ZK s=(decide (l.length≤4)&&l.all Yz):=by rw [hl];rfl
 have hR:Ud s=match ZK s with|true=> .sl .none 1 (ZJ l)|false=> .nils:=by rw [hl];rfl
 rw [← hl] at hsp hlen
 have hpl:(ZJ l).length=l.length:=by simp [ZJ]
 refine Wp.seq ?_
 repeat' first|refine Jc (hsp _) ?_|refine Jb ?_ ?_|refine Jo ?_|intro hb
 · have h4 : 4 < l.length := by rw [← hpl]; simp at hb; omega
   have hd:ZK s=false:=by rw [hdot];simp;omega
   rw [hR,hd];rfl
 have h4:l.length≤4:=by rw [← hpl];simp at hb;omega
 refine Wp.while (fun m tm H => ∃ (i : Nat) (base : TM), i + m = l.length ∧ (l.take i).all Yz = true ∧
   tm=ovr base [(3,.sl .none 1 (ZJ l)),(11,.sl .none 1 (ZJ l)),(12,.int .i64 (l.length:Int)),(13,.int .i64 (i:Int))]∧H=hNil)
  (fun m tm H hI=>?_) l.length _ _ ⟨0,_,by omega,by simp,Zi ⟨rfl,rfl,Zh (by rw [← hpl];rfl),rfl,trivial⟩,rfl⟩
 obtain ⟨i,base,hi,hall,rfl,rfl⟩:=hI
 by_cases hlt:i<l.length
 · obtain ⟨x, hx⟩ : ∃ x, l[i]? = some x := ⟨l[i], by simp⟩
   have hxm:x∈l:=List.mem_of_getElem? hx
   have hxl:x.length≤100000:=Nat.le_trans (hlen x hxm) hs
   have hia:=ZqU hx
   have bad:Yz x=false→ZK s=false:=fun h=>by
    rw [hdot]
    simp only [Bool.and_eq_false_iff]
    right
    rw [List.all_eq_false]
    exact ⟨x,hxm,by simp [h]⟩
   have htake:(l.take (i+1)).all Yz=((l.take i).all Yz&&Yz x):=by
    have:l.take (i+1)=l.take i++ [x]:=by
     rw [List.take_add_one];simp [hx]
    rw [this];simp
   have htr:=Zth x hxl
   cases x with
   | nil =>
     repeat' first|refine Jk ?_|refine JJ ?_|refine Jt ?_|refine Jz ?_ ?_|refine Jo ?_|intro hb
     · have hd := bad rfl
       rw [hR,hd];rfl
     · simp at hb;omega
   | cons c r =>
     have hlab:=ZgG c r
     have neg:∀ P:Prop,P→(P→¬ (¬ (8<(c::r).length)∧97≤c.toNat∧c.toNat≤122∧(c::r).all alB=true))→Yz (c::r)=false:=fun P hp hn=>by
      cases h:Yz (c::r) with
      | false=>rfl
      | true=>exact absurd (hlab.1 h) (hn hp)
     repeat' first|refine Jk ?_|refine Jc (htr _) ?_|refine JJ ?_|refine Jt ?_|refine Jb ?_ ?_|refine Jz ?_ ?_|refine Jo ?_|intro hb
     · rw [hR, bad (neg _ hb fun h => by
         have h:8<Int.ofNat (c::r).length:=of_decide_eq_true h
         intro q
         have:=q.1
         simp only [Int.ofNat_eq_natCast] at h
         omega)]
       rfl
     · rw [hR, bad (neg _ hb fun h => by
         have h:Int.ofNat c.toNat<97:=of_decide_eq_true h
         intro q
         have:=q.2.1
         simp only [Int.ofNat_eq_natCast] at h
         omega)]
       rfl
     · rw [hR, bad (neg _ hb fun h => by
         have h:122<Int.ofNat c.toNat:=of_decide_eq_true h
         intro q
         have:=q.2.2.1
         simp only [Int.ofNat_eq_natCast] at h
         omega)]
       rfl
     · rw [hR, bad (neg _ hb fun h => by
         intro q
         rw [ZfO.2 q.2.2.2] at h
         cases h)]
       rfl
     · rename_i hb1 hb2 hb3 hb4
       have g1:¬ (8<(c::r).length):=by
        have h:=of_decide_eq_false hb2
        simp only [Int.ofNat_eq_natCast] at h
        omega
       have g2:97≤c.toNat:=by
        have h:=of_decide_eq_false hb3
        simp only [Int.ofNat_eq_natCast] at h
        omega
       have g3:c.toNat≤122:=by
        have h:=of_decide_eq_false hb4
        simp only [Int.ofNat_eq_natCast] at h
        omega
       have g4:(c::r).all alB=true:=by
        refine ZfO.1 ?_
        simpa using hb
       have hg:=hlab.2 ⟨g1,g2,g3,g4⟩
       refine LoopI.go (m-1) (by omega) ⟨i+1,_,by omega,by rw [htake,hall,hg];rfl,Zi ⟨rfl,rfl,rfl,Zh (Ze (n:=i+1) (by omega)),trivial⟩,rfl⟩
     · exfalso;simp at hb;omega
 · have e : i = l.length := by omega
   subst e
   rw [List.take_length] at hall
   have hd:ZK s=true:=by rw [hdot,hall];simpa using h4
   repeat' first|refine Jz ?_ ?_|refine Jo ?_|intro hb
   all_goals first
    | (exfalso;simp at hb;done)
    | (rw [hR,hd];rfl)
theorem ZsF (hs:s.length≤100000):∀ H,CallOk E0 Tryz.prog 160 [.str s] H (.bool (ZK s)) H:=by
 refine Zr (own:=fun _=>false) tOk fe160.ok rfl rfl ?_
 have hc:=ZsG hs
 unfold Ud at hc
 cases hd:ZK s with
 | false =>
   rw [hd] at hc
   refine Wp.seq ?_
   repeat' first|refine Jc (hc _) ?_|refine Jt ?_|refine Jo ?_|fail
   all_goals rfl
 | true =>
   rw [hd] at hc
   refine Wp.seq ?_
   repeat' first|refine Jc (hc _) ?_|refine Jt ?_|refine Jo ?_|fail
   all_goals rfl
open Go.Proofs
def okB (i:Nat) (c:UInt8):Bool:=ZkX c||(decide (i≠0)&&Zl8 c)
def okL:Nat→Bs→Bool
 |_,[]=>true
 |i,c::r=>okB i c&&okL (i+1) r
theorem Zf0 (i:Nat):∀ r:Bs,okL (i+1) r=r.all (fun x=>ZkX x||Zl8 x)
 | []=>rfl
 | c :: r => by
   simp only [okL,List.all_cons,Zf0 (i+1) r,okB]
   simp
theorem Zfm (s:Bs):Yz s=(okL 0 s&&(decide (1≤s.length)&&decide (s.length≤8))):=by
 cases s with
 |nil=>rfl
 | cons c r =>
   simp only [Yz,okL,Zf0,okB,List.length_cons]
   have e:decide (r.length≤7)=(decide (1≤r.length+1)&&decide (r.length+1≤8)):=by
    rw [Bool.eq_iff_iff];simp
   rw [e]
   simp [Bool.and_assoc]
theorem ZbJ (l:List Bs):(ZJ l).length=l.length:=by simp [ZJ]
theorem U1 (h:s[i]? = some c):s.drop i=c::s.drop (i+1):=by
 obtain ⟨hi,rfl⟩:=List.getElem?_eq_some_iff.1 h
 exact List.drop_eq_getElem_cons hi
theorem ZjZ (h:s[i]? = some c):Vk E0 9 (.str s) (.int .i64 (i:Int))=some (.int .u8 (c.toNat:Int)):=by
 have en:nat? (.int .i64 (i:Int))=some i:=rfl
 have hn:nth s i=some c:=by rw [ZA];exact h
 simp only [Vk,e9s,en,hn]
 rfl
theorem ZsA (hs:s.length≤100000):∀ H,CallOk E0 Tryz.prog 203 [.str s] H (.bool (Yz s)) H:=by
 refine Jw tOk fe203.ok rfl ?_
 repeat' first|refine Jt ?_|refine Jo ?_|fail
 refine Wp.while (fun m tm H => ∃ (i : Nat) (base : TM), i + m = s.length ∧ okL 0 s = okL i (s.drop i) ∧
   tm=ovr base [(0,.str s),(3,.int .i64 (i:Int))]∧H=hNil)
  (fun m tm H hI=>?_) s.length _ _ ⟨0,_,by omega,by simp,Zi ⟨rfl,rfl,trivial⟩,rfl⟩
 obtain ⟨i,base,hi,hf,rfl,rfl⟩:=hI
 by_cases hlt:i<s.length
 · obtain ⟨c, hx⟩ : ∃ c, s[i]? = some c := ⟨s[i], by simp⟩
   have hia:=ZjZ hx
   rw [U1 hx] at hf
   simp only [okL] at hf
   have bad:okB i c=false→Yz s=false:=fun h=>by rw [Zfm,hf,h];rfl
   have e0:okB i c=(decide (97≤(c.toNat:Int))&&decide ((c.toNat:Int)≤122)||(!((i:Int)==0)&&(!decide ((c.toNat:Int)<48)&& !decide ((57:Int)<(c.toNat:Int))))):=by
    have a1:decide (97≤c.toNat)=decide (97≤(c.toNat:Int)):=by rw [Bool.eq_iff_iff];simp;omega
    have a2:decide (c.toNat≤122)=decide ((c.toNat:Int)≤122):=by rw [Bool.eq_iff_iff];simp;omega
    have a3:decide (48≤c.toNat)= !decide ((c.toNat:Int)<48):=by rw [Bool.eq_iff_iff];simp;omega
    have a4:decide (c.toNat≤57)= !decide ((57:Int)<(c.toNat:Int)):=by rw [Bool.eq_iff_iff];simp;omega
    have a5:decide (i≠0)= !((i:Int)==0):=by rw [Bool.eq_iff_iff];simp
    simp only [okB,ZkX,Zl8,a1,a2,a3,a4,a5]
   repeat' first|refine Jk ?_|refine JX ?_|refine Jt ?_|refine Jb ?_ ?_|refine Jo ?_|intro hb
   all_goals first
    | (rw [bad (by rw [e0];simp only [*];first|done|rfl)];done)
    | (have e1 : okB i c = true := by (rw [e0]; simp only [*]; first | done | rfl)
       refine LoopI.go (m-1) (by omega) ⟨i+1,_,by omega,by rw [hf,e1];rfl,Zi ⟨rfl,Zh (Ze (n:=i+1) (by omega)),trivial⟩,rfl⟩)
    | (exfalso;clear hf bad e0;simp_all;done)
 · have e : i = s.length := by omega
   subst e
   rw [List.drop_length] at hf
   have hl:Yz s=(decide (1≤Int.ofNat s.length)&&decide (Int.ofNat s.length≤8)):=by
    rw [Zfm,hf]
    have a1:decide (1≤s.length)=decide (1≤Int.ofNat s.length):=by rw [Bool.eq_iff_iff];simp;omega
    have a2:decide (s.length≤8)=decide (Int.ofNat s.length≤8):=by rw [Bool.eq_iff_iff];simp;omega
    rw [a1,a2];rfl
   repeat' first|refine Jk ?_|refine Jt ?_|refine Jb ?_ ?_|refine Jo ?_|intro hb
   · exfalso;simp at hb
   all_goals (rw [hl];simp only [*];rfl)
def Q8 (cur r:Bs):List Bs:=match ZE r with
 | []=>[cur]
 |x::l=>(cur++x)::l
theorem Zae (r:Bs):Q8 [] r=ZE r:=by
 unfold Q8
 cases h:ZE r with
 |nil=>exact absurd h (WK r)
 |cons x l=>rfl
theorem Zho (cur:Bs):Q8 cur []= [cur]:=by simp [Q8,ZE]
theorem Zjf (cur r:Bs):Q8 cur (46::r)=cur::Q8 [] r:=by
 rw [Zae]
 simp [Q8,ZE]
theorem ZgH {cur r:Bs} (h:c≠46):Q8 cur (c::r)=Q8 (cur++ [c]) r:=by
 have h2:(c==46)=false:=by simpa using h
 simp only [Q8,ZE,h2]
 cases hs:ZE r with
 |nil=>exact absurd hs (WK r)
 |cons x l=>simp
def Zpj:List Bs→PV
 | []=> .nils
 |x::l=> .sl (.tok l.length) 1 (ZJ (x::l))
def Zpb:List Bs→Heap
 | []=>hNil
 |_::l=>⟨[],0,[l.length],l.length+1⟩
theorem Znf {acc:List Bs} (cur:Bs) (h:acc.length≤200000):Yg E0 87 87 (Zpj acc) (.sl .full 1 [[.str cur]]) (Zpb acc)=some (Zpj (acc++ [cur]),Zpb (acc++ [cur])):=by
 have hz:(E0.T 9)=some ⟨.string,1,16,.str []⟩:=e9s
 cases acc with
 | nil =>
   show Yg E0 87 87 .nils _ _=_
   simp only [Yg,Wl,e22,hz]
   rfl
 | cons x l =>
   have hf:Wf (ZJ (x::l)).length 1 16=true:=by
    simp only [Wf,Bool.and_eq_true,Nat.ble_eq,ZbJ]
    omega
   have he:Wl E0 87 87 (.sl (.tok l.length) 1 (ZJ (x::l))) (.sl .full 1 [[.str cur]]) ⟨[],0,[l.length],l.length+1⟩=some (1,16,[[.str cur]]):=by
    simp only [Wl,e22,hz]
    rfl
   show Yg E0 87 87 (.sl (.tok l.length) 1 (ZJ (x::l))) _ ⟨[],0,[l.length],l.length+1⟩=_
   have ht:Zba (ZdP E0 87) (ZJ (x::l)++ [[.str cur]])=true:=ZaF (by simp [noB,ZJ,noC])
   have hn:noB [[PV.str cur]]=true:=rfl
   simp only [Yg,he,hf,ht,hn,Bool.or_true,Bool.and_self,List.length_cons,List.length_nil,if_true,X6]
   simp [Zpj,Zpb,ZJ]
def XP (s:Bs):PV:=match (ZE s).all Yz with
 |true=> .tup [.sl .none 1 (ZJ (ZE s)),.bool (decide ((ZE s).length≤4))]
 |false=> .tup [.nils,.bool false]
theorem ZsC (hs:s.length≤100000):∀ H,CallOk E0 Tryz.prog 164 [.str s] H (XP s) H:=by
 have hfr:frz3 0 hNil (XP s)=some (XP s):=by
  unfold XP
  cases h:(ZE s).all Yz with
  | false=>rfl
  | true=>rfl
 refine Jw tOk fe164.ok hfr ?_
 repeat' first|refine Jt ?_|refine Jo ?_|fail
 refine Wp.while (fun m tm H => ∃ (i : Nat) (acc : List Bs) (cur : Bs) (base : TM), i + m = s.length + 1 ∧ acc.length ≤ i ∧ cur.length ≤ i ∧ acc.all Yz = true ∧
   (i≤s.length→ZE s=acc++Q8 cur (s.drop i))∧(i=s.length+1→ZE s=acc)∧
   tm=ovr base [(0,.str s),(4,Zpj acc),(5,.str cur),(6,.int .i64 (i:Int))]∧H=Zpb acc)
  (fun m tm H hI=>?_) (s.length+1) _ _ ⟨0,[],[],_,by omega,by simp,by simp,rfl,fun _=>(Zae s).symm,fun h=>absurd h (by omega),Zi ⟨rfl,rfl,rfl,rfl,trivial⟩,rfl⟩
 obtain ⟨i,acc,cur,base,hi,hal,hcl,hall,h1,h2,rfl,rfl⟩:=hI
 have happ:=Znf (acc:=acc) cur (by omega)
 have hi3:i≤s.length∨i=s.length+1:=by omega
 have bad:∀ rest,ZE s=acc++cur::rest→Yz cur=false→XP s= .tup [.nils,.bool false]:=fun rest e h=>by
  have:(ZE s).all Yz=false:=by rw [e];simp [h]
  simp only [XP,this]
 have hall2:Yz cur=true→(acc++ [cur]).all Yz=true:=fun h=>by simp [hall,h]
 by_cases hlt:i<s.length
 · obtain ⟨c, hx⟩ : ∃ c, s[i]? = some c := ⟨s[i], by simp⟩
   have hc:=ZsA (s:=cur) (by omega)
   have hia:=ZjZ hx
   have hsp:=h1 (by omega)
   rw [U1 hx] at hsp
   by_cases hc46:c=46
   · subst hc46
     rw [Zjf] at hsp
     cases hlb:Yz cur with
     | false =>
       rw [hlb] at hc
       repeat' first|refine Jk ?_|refine Jc (hc _) ?_|refine JX ?_|refine Jt ?_|refine Jb ?_ ?_|refine Jo ?_|intro hb
       all_goals first
        | (rw [bad _ hsp hlb];rfl)
        | (exfalso;simp at hb;omega)
     | true =>
       rw [hlb] at hc
       repeat' first|refine Jk ?_|refine Jc (hc _) ?_|refine Js ?_|refine JA ?_|refine JX ?_|refine Jt ?_|refine Jb ?_ ?_|refine Jo ?_|intro hb
       all_goals first
        | (refine LoopI.go (m-1) (by omega) ⟨i+1,acc++ [cur],[],_,by omega,by simp;omega,by simp,hall2 hlb,fun _=>by rw [hsp];simp,fun h=>absurd h (by omega),Zi ⟨rfl,rfl,rfl,Zh (Ze (n:=i+1) (by omega)),trivial⟩,rfl⟩)
        | (exfalso;simp at hb;omega)
   · rw [ZgH hc46] at hsp
     have hsl:Z4 E0 9 (.str s) (some (.int .i64 (i:Int))) (some (.int .i64 (IntKind.i64.wrap ((i:Int)+1)))) none=some (.str [c]):=by
      have en:nat? (.int .i64 (i:Int))=some i:=rfl
      have en2:nat? (.int .i64 ((i+1:Nat):Int))=some (i+1):=rfl
      have ew:IntKind.i64.wrap ((i:Int)+1)=((i+1:Nat):Int):=by
       have:=Ze (n:=i+1) (by omega)
       exact this
      rw [ew]
      simp only [Z4,e9s,Xb,en,en2,if_pos (show i+1≤s.length by omega),if_pos (show i≤i+1 by omega)]
      have e1:i+1-i=1:=by omega
      rw [List.drop_take,e1,U1 hx]
      rfl
     have hne:¬ ((c.toNat:Int)=46):=fun h=>hc46 ((Zjm c).1 h)
     have hcat:ZV E0 .add 9 (.str cur) (.str [c])=some (.str (cur++ [c])):=by
      simp only [ZV,ZfJ]
      rw [if_pos (by simp;omega)]
     repeat' first|refine Jk ?_|refine Jc (hc _) ?_|refine Js ?_|refine JA ?_|refine JS ?_|refine JX ?_|refine Ji ?_|refine Jt ?_|refine Jb ?_ ?_|refine Jo ?_|intro hb
     all_goals first
      | (refine LoopI.go (m-1) (by omega) ⟨i+1,acc,cur++ [c],_,by omega,by omega,by simp;omega,hall,fun _=>hsp,fun h=>absurd h (by omega),Zi ⟨rfl,rfl,rfl,Zh (Ze (n:=i+1) (by omega)),trivial⟩,rfl⟩)
      | (exfalso;clear happ hc bad hall2 h1 h2 hsp hia hsl hcat hfr;simp_all;first|done|omega)
 · by_cases hle : i = s.length
   · have hc := ZsA (s := cur) (by omega)
     have hsp:=h1 (by omega)
     have hdr:s.drop i= []:=by rw [hle];simp
     rw [hdr,Zho] at hsp
     cases hlb:Yz cur with
     | false =>
       rw [hlb] at hc
       repeat' first|refine Jk ?_|refine Jc (hc _) ?_|refine Jt ?_|refine Jb ?_ ?_|refine Jo ?_|intro hb
       all_goals first
        | (rw [bad [] hsp hlb];rfl)
        | (exfalso;simp at hb;omega)
        | trace_state
     | true =>
       rw [hlb] at hc
       repeat' first|refine Jk ?_|refine Jc (hc _) ?_|refine Js ?_|refine JA ?_|refine Jt ?_|refine Jb ?_ ?_|refine Jo ?_|intro hb
       all_goals first
        | (refine LoopI.go (m-1) (by omega) ⟨i+1,acc++ [cur],[],_,by omega,by simp;omega,by simp,hall2 hlb,fun h=>absurd h (by omega),fun _=>hsp,Zi ⟨rfl,rfl,rfl,Zh (Ze (n:=i+1) (by omega)),trivial⟩,rfl⟩)
        | (exfalso;simp at hb;omega)
        | trace_state
   · have hsp := h2 (by omega)
     cases acc with
     | nil=>exact absurd hsp (WK s)
     | cons x l =>
       have hl:XP s= .tup [.sl .none 1 (ZJ (x::l)),.bool (decide ((x::l).length≤4))]:=by
        simp only [XP,hsp,hall]
       rw [hl]
       have e4:decide ((x::l).length≤4)=decide (Int.ofNat (ZJ (x::l)).length≤4):=by
        rw [ZbJ,Bool.eq_iff_iff];simp;omega
       have hno:decide ((i:Int)≤Int.ofNat s.length)=false:=by simp;omega
       repeat' first|refine Jk ?_|refine Jt ?_|refine Jb ?_ ?_|refine Jo ?_|intro hb
       all_goals first
        | (rw [e4,hb];rfl)
        | (exfalso;rename_i hq;rw [hno] at hq;cases hq)
open Go.Proofs
theorem Vg (k:Int) (nm:List UInt8) (s:Int) (b:Bool) (kids:List Tm):Xm [.int .i64 k,.str nm,.int .i64 s,slV b 4 (Za kids)]=some [.int .i64 k,.str nm,.int .i64 s,slV b 4 (Za kids)]:=by
 simp only [Xm,Zu]
 rfl
theorem ZvA (ht:t.Ok):t.size<4611686018427387904→∀ H,CallOk E0 Tryz.prog 115 [.agg t.cells] H (.int .i64 (t.size:Int)) H:=by
 induction ht with
 | @mk k nm s b kids hk hs hn hl hok ih=>
 intro hsz
 refine Jw tOk fe115.ok rfl ?_
 repeat' first|refine Jo ?_|fail
 refine Wp.while (fun m tm H=>∃ i base,i+m=kids.length∧tm=ovr base [(1,.ptr 0 4 0 0),(3,.int .i64 ((1+Zz (kids.take i):Nat):Int)),(4,.int .i64 (i:Int))]∧H=⟨[.cells 4 [[.int .i64 k,.str nm,.int .i64 s,slV b 4 (Za kids)]]],0,[],0⟩)
  (fun m tm H hI=>?_) kids.length _ _ ⟨0,_,by omega,Zi ⟨rfl,rfl,rfl,trivial⟩,rfl⟩
 obtain ⟨i,base,hi,rfl,rfl⟩:=hI
 simp only [Tm.size] at hsz
 unfold maxLen at hl
 by_cases hlt:i<kids.length
 · obtain ⟨t', ht'⟩ : ∃ t', kids[i]? = some t' := ⟨kids[i], by simp⟩
   have hm:t'∈kids:=List.mem_of_getElem? ht'
   have hle:=Xu hm
   have hst:=VI ht'
   have hsl:=Xq kids (i+1)
   have hc:=ih t' hm (by omega)
   obtain ⟨k',nm',s',b',kids'⟩:=t'
   have hj:=Zk ht'
   repeat' first|refine Jc (hc _) ?_|refine Jl ?_|refine Jx ?_|refine Jb ?_ ?_|refine Jo ?_|intro hb
   · refine LoopI.go (m - 1) (by omega) ⟨i + 1, _, by omega, Zi ⟨rfl, ?_, ?_, trivial⟩, rfl⟩
     · refine Zh ?_
       rw [hst, ← Nat.add_assoc,Int.natCast_add (1+Zz (kids.take i)), ← Int.natCast_add]
       exact Ze (by omega)
     · exact Zh (Ze (n:=i+1) (by omega))
   · rw [Zb] at hb;simp at hb;omega
 · have e : i = kids.length := by omega
   subst e
   repeat' first|refine Jl ?_|refine Jb ?_ ?_|refine Jo ?_|intro hb
   · rw [Zb] at hb;simp at hb
   · simp [Tm.size]
open Go.Proofs
theorem Zoo (k:Int) (nm:List UInt8) (s:Int) (b:Bool) (kids:List Tm) (w:List UInt8):∀ H,CallOk E0 Tryz.prog 120 [.agg [.int .i64 k,.str nm,.int .i64 s,slV b 4 (Za kids)],.str w] H (.bool (isF k nm w)) H:=by
 refine Jw tOk fe120.ok rfl ?_ (by simp [ZC,frzG,Vg,frz1])
 repeat' first|refine Jk ?_|refine Jt ?_|refine Jb ?_ ?_|refine Jo ?_|intro hb
 all_goals simp_all [isF]
theorem c66 (ht:t.Ok):∀ n:Int, -9223372036854775808≤n→n≤9223372036854775807→∀ H,CallOk E0 Tryz.prog 66 [.agg t.cells,.int .i64 n] H (.int .i64 (t.budget n)) H:=by
 induction ht with
 | @mk k nm s b kids hk hs hn hl hok ih=>
 intro n hn1 hn2
 refine Jw tOk fe66.ok rfl ?_ (by simp [ZC,frzG,Tm.cells,Vg,frz1])
 repeat' first|refine Jk ?_|refine Jt ?_|refine Jb ?_ ?_|refine Jo ?_|intro hb
 · refine Zh ?_
   simp at hb
   simp [Tm.budget,hb]
 · refine Zh ?_
   rename_i hb1
   simp at hb hb1
   have:40<nm.length:=by omega
   simp [Tm.budget,this]
 rename_i hb1
 simp at hb hb1
 have h40:¬ (n≤0∨40<nm.length):=by omega
 refine Wp.while (fun m tm H=>∃ i base x,i+m=kids.length∧0≤x∧x≤n∧Wx kids (n-1)=Wx (kids.drop i) x∧tm=ovr base [(2,.ptr 0 4 0 0),(1,.int .i64 x),(5,.int .i64 (i:Int))]∧H=⟨[.cells 4 [[.int .i64 k,.str nm,.int .i64 s,slV b 4 (Za kids)]]],0,[],0⟩)
  (fun m tm H hI=>?_) kids.length _ _ ⟨0,_,n-1,by omega,by omega,by omega,by simp,Zi ⟨rfl,Zh (IntWalk.i64_in _ (by omega)),rfl,trivial⟩,rfl⟩
 obtain ⟨i,base,x,hi,hx0,hxn,hbud,rfl,rfl⟩:=hI
 unfold maxLen at hl
 by_cases hlt:i<kids.length
 · obtain ⟨t', ht'⟩ : ∃ t', kids[i]? = some t' := ⟨kids[i], by simp⟩
   have hm:t'∈kids:=List.mem_of_getElem? ht'
   have hdr:=ZM ht'
   have hc:=ih t' hm x (by omega) (by omega)
   have hbe:=t'.budget_eq x
   obtain ⟨bx,hbx⟩:∃ bx,bx=t'.budget x:=⟨_,rfl⟩
   rw [← hbx] at hc hbe
   rw [hdr] at hbud
   simp only [Wx, ← hbx] at hbud
   obtain ⟨k',nm',s',b',kids'⟩:=t'
   have hj:=Zk ht'
   repeat' first|refine Jc (hc _) ?_|refine Jl ?_|refine Jx ?_|refine Jb ?_ ?_|refine Jo ?_|intro hb
   · refine Zh ?_
     rename_i hb2
     have hb:bx<0:=by simpa using hb
     simp only [Tm.budget,if_neg h40,hbud,if_pos hb]
   · have hb : ¬ bx < 0 := by simpa using hb
     rw [if_neg hb] at hbud
     refine LoopI.go (m-1) (by omega) ⟨i+1,_,bx,by omega,by omega,by have:=hbe (by omega);omega,hbud,Zi ⟨rfl,rfl,?_,trivial⟩,rfl⟩
     exact Zh (Ze (n:=i+1) (by omega))
   · rw [Zb] at hb;simp at hb;omega
 · have e : i = kids.length := by omega
   subst e
   repeat' first|refine Jl ?_|refine Jb ?_ ?_|refine Jo ?_|intro hb
   · rw [Zb] at hb;simp at hb
   · refine Zh ?_
     simp only [Tm.budget,if_neg h40,hbud]
     simp [Wx]
theorem c25 {l : List Tm} (hok : ∀ t, t ∈ l → t.Ok) (hl : l.length ≤ maxLen) (b : Bool) {n most : Int} (hm1 : -9223372036854775808 ≤ most) (hm2 : most ≤ 9223372036854775807) :
  ∀ H,CallOk E0 Tryz.prog 25 [slV b 4 (Za l),.int .i64 n,.int .i64 most] H (.bool (QL l n most)) H:=by
 refine Jw tOk fe25.ok rfl ?_
 repeat' first|refine Jl ?_|refine Jt ?_|refine Jb ?_ ?_|refine Jo ?_|intro hb
 · simp at hb
   rw [Zb] at hb
   simp [QL,hb]
 rw [Zb] at hb
 simp at hb
 have hnl:¬ n<(l.length:Int):=by omega
 refine Wp.while (fun m tm H=>∃ i base x,i+m=l.length∧ -9223372036854775808≤x∧x≤9223372036854775807∧Zlf l most=Zlf (l.drop i) x∧tm=ovr base [(0,slV b 4 (Za l)),(2,.int .i64 x),(7,.int .i64 (i:Int))]∧H=⟨[],0,[],0⟩)
  (fun m tm H hI=>?_) l.length _ _ ⟨0,_,most,by omega,by omega,by omega,by simp,Zi ⟨rfl,rfl,rfl,trivial⟩,rfl⟩
 obtain ⟨i,base,x,hi,hx0,hxn,hbud,rfl,rfl⟩:=hI
 unfold maxLen at hl
 by_cases hlt:i<l.length
 · obtain ⟨t', ht'⟩ : ∃ t', l[i]? = some t' := ⟨l[i], by simp⟩
   have hm:t'∈l:=List.mem_of_getElem? ht'
   have hdr:=ZM ht'
   have hc:=c66 (hok t' hm) x (by omega) (by omega)
   have hbe:=t'.budget_eq x
   obtain ⟨bx,hbx⟩:∃ bx,bx=t'.budget x:=⟨_,rfl⟩
   rw [← hbx] at hc hbe
   rw [hdr] at hbud
   simp only [Zlf, ← hbx] at hbud
   obtain ⟨k',nm',s',b',kids'⟩:=t'
   have hj:=Zk ht'
   repeat' first|refine Jc (hc _) ?_|refine Jl ?_|refine Jx ?_|refine Jt ?_|refine Jb ?_ ?_|refine Jo ?_|intro hb
   · have hb : bx < 0 := by simpa using hb
     simp [QL,hbud,if_pos hb]
   · have hb : ¬ bx < 0 := by simpa using hb
     rw [if_neg hb] at hbud
     refine LoopI.go (m-1) (by omega) ⟨i+1,_,bx,by omega,by omega,by have:=hbe (by omega);omega,hbud,Zi ⟨rfl,rfl,?_,trivial⟩,rfl⟩
     exact Zh (Ze (n:=i+1) (by omega))
   · rw [Zb] at hb;simp at hb;omega
 · have e : i = l.length := by omega
   subst e
   repeat' first|refine Jl ?_|refine Jt ?_|refine Jb ?_ ?_|refine Jo ?_|intro hb
   · rw [Zb] at hb;simp at hb
   · simp [QL,if_neg hnl,hbud,Zlf]
open Go.Proofs
open Go.Proofs
theorem Zeh (h:a=true↔b=true):PV.bool a=PV.bool b:=by rw [Bool.eq_iff_iff.2 h]
theorem ZsM (c:Int):∀ H,CallOk E0 Tryz.prog 209 [.int .u8 c] H (.bool (ZeY c)) H:=by
 refine Jw tOk fe209.ok rfl ?_
 repeat' first|refine Jk ?_|refine Jt ?_|refine Jb ?_ ?_|refine Jo ?_|intro hb
 all_goals
  refine Zeh ?_
  simp [ZeY,Zgl,ZmC] at *
  try omega
theorem ZrS (c:Int):∀ H,CallOk E0 Tryz.prog 126 [.int .u8 c] H (.bool (Zgl c)) H:=by
 refine Jw tOk fe126.ok rfl ?_
 repeat' first|refine Jk ?_|refine Jt ?_|refine Jb ?_ ?_|refine Jo ?_|intro hb
 all_goals
  refine Zeh ?_
  simp [Zgl] at *
  try omega
theorem c127 (c:Int):∀ H,CallOk E0 Tryz.prog 127 [.int .u8 c] H (.bool (ZmC c)) H:=by
 refine Jw tOk fe127.ok rfl ?_
 repeat' first|refine Jk ?_|refine Jt ?_|refine Jb ?_ ?_|refine Jo ?_|intro hb
 all_goals
  refine Zeh ?_
  simp [ZmC] at *
  try omega
theorem V7 {s:List UInt8} (h:s[i]? = some x) (hx:Va x=false):s.all Va=false:=by
 rw [List.all_eq_false]
 exact ⟨x,List.mem_of_getElem? h,by simp [hx]⟩
theorem ZbX (c:UInt8) (r:List UInt8):VH (c::r)=(decide ((c::r).length≤24)&&(Zgl (Int.ofNat c.toNat)&&(c::r).all Va)):=rfl
theorem Zir {c:Int} (h:ZeY c=true) (h1:¬ (48≤c∧c≤57)) (h2:c≠95) (h3:c≠35):Zgl c=true:=by
 simp [ZeY,Zgl,ZmC] at *
 omega
theorem eTs:E0.T 9=some ⟨.string,1,16,.str []⟩:=rfl
theorem Zo8 {s:List UInt8} (h:s[i]? = some c):Vk E0 9 (.str s) (.int .i64 (i:Int))=some (.int .u8 (c.toNat:Int)):=by
 have en:nat? (.int .i64 (i:Int))=some i:=rfl
 have hn:nth s i=some c:=by rw [ZA];exact h
 simp only [Vk,eTs,en,hn]
 rfl
theorem ZaZ {c:Bool} (h:a=false∨b=false∨c=false):PV.bool false=PV.bool (a&&(b&&c)):=by
 rcases h with rfl|rfl|rfl<;>simp
theorem Zf5 {s:List UInt8} (h:s[i]? = some x) (hx:Va x=true) (ht:(s.take i).all Va=true):(s.take (i+1)).all Va=true:=by
 rw [List.take_add_one,h]
 simp [List.all_append,ht,hx]
theorem c168 (s:List UInt8) (hs:s.length≤maxLen):∀ H,CallOk E0 Tryz.prog 168 [.str s] H (.bool (VH s)) H:=by
 refine Jw tOk fe168.ok rfl ?_
 cases s with
 | nil =>
   repeat' first|refine Jk ?_|refine Jt ?_|refine Jo ?_|fail
   all_goals first
    | rfl
    | (exfalso;simp at hb;done)
 | cons c r =>
   have hc:=ZsM (Int.ofNat c.toNat)
   obtain ⟨S,hS⟩:∃ S,S=ZeY (Int.ofNat c.toNat):=⟨_,rfl⟩
   have hj:=Zo8 (show (c::r)[0]? = some c from rfl)
   rw [ZbX]
   obtain ⟨s,hss⟩:∃ s,s=c::r:=⟨_,rfl⟩
   rw [← hss] at hs hj ⊢
   have hne:¬ s= []:=by rw [hss];simp
   have hm:c∈s:=by rw [hss];simp
   have hall:S=false→s.all Va=false:=fun h=>by
    rw [List.all_eq_false]
    exact ⟨c,hm,by rw [show Va c=S from hS.symm,h];simp⟩
   rw [← hS] at hc
   repeat' first|refine Jk ?_|refine Jc (hc _) ?_|refine JX ?_|refine Jt ?_|refine Jb ?_ ?_|refine Jo ?_|intro hb
   all_goals first
    | (exfalso;simp at hb;exact hne hb)
    | (refine ZaZ (.inl ?_);simp at hb;simp;omega)
    | (refine ZaZ (.inr (.inr (hall (by simpa using hb))));done)
    | (refine ZaZ (.inr (.inl ?_));clear hc hall hj hS hm hne hss;simp [Zgl] at *;omega)
    | skip
   all_goals
    have f1:S=true:=by simpa using ‹(!S)=false›
    have f2:¬ (48≤(c.toNat:Int)∧(c.toNat:Int)≤57):=by
     first
      | (have:= ‹decide ((c.toNat:Int)≤57)=false›;simp at this;omega)
      | (have:= ‹decide (48≤(c.toNat:Int))=false›;simp at this;omega)
    have f3:(c.toNat:Int)≠95:=by simpa using ‹((c.toNat:Int)==95)=false›
    have f4:(c.toNat:Int)≠35:=by simpa using ‹((c.toNat:Int)==35)=false›
    have hlt:Zgl (Int.ofNat c.toNat)=true:=Zir (hS ▸ f1) f2 f3 f4
    have h24:s.length≤24:=by
     have:= ‹decide (24<Int.ofNat s.length)=false›
     simp at this;omega
    rw [show (decide (s.length≤24)&&(Zgl (Int.ofNat c.toNat)&&s.all Va))=s.all Va by simp only [h24,hlt,decide_true,Bool.true_and]]
    refine Wp.while (fun m tm H=>∃ (i:Nat),∃ base,i+m=s.length∧(s.take i).all Va=true∧tm=ovr base [(0,.str s),(38,.int .i64 (s.length:Int)),(39,.int .i64 (i:Int))]∧H=⟨[],0,[],0⟩)
     (fun m tm H hI=>?_) s.length _ _ ⟨0,_,by omega,by simp,Zi ⟨rfl,rfl,rfl,trivial⟩,rfl⟩
    clear hc hall hj
    obtain ⟨i,base,hi,hall,rfl,rfl⟩:=hI
    by_cases hlt2:i<s.length
    · obtain ⟨d, hd⟩ : ∃ d, s[i]? = some d := ⟨s[i], by simp⟩
      have hj:=Zo8 hd
      have hc:=ZsM (Int.ofNat d.toNat)
      obtain ⟨D,hD⟩:∃ D,D=ZeY (Int.ofNat d.toNat):=⟨_,rfl⟩
      rw [← hD] at hc
      repeat' first|refine Jc (hc _) ?_|refine JX ?_|refine Jt ?_|refine Jb ?_ ?_|refine Jo ?_|intro hb
      · rw [V7 hd (by rw [show Va d=D from hD.symm];simpa using hb)]
      · refine LoopI.go (m - 1) (by omega) ⟨i + 1, _, by omega, Zf5 hd (by rw [show Va d = D from hD.symm]; simpa using hb) hall, Zi ⟨rfl, rfl, ?_, trivial⟩, rfl⟩
        exact Zh (Ze (n:=i+1) (by unfold maxLen at hs;omega))
      · exfalso;simp at hb;omega
    · have e : i = s.length := by omega
      subst e
      repeat' first|refine Jt ?_|refine Jb ?_ ?_|refine Jo ?_|intro hb
      · exfalso;simp at hb
      · rw [← hall,List.take_length]
end Go.Vm.Seat
