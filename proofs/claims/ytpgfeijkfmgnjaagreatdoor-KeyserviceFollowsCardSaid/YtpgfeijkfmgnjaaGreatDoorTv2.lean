/-
  Valid terms of the program.
-/
import Derived.Test.YtpgfeijkfmgnjaaGreatDoorCrLab
set_option maxHeartbeats 0
set_option maxRecDepth 100000
namespace Go.Vm.Seat
variable {d e k lvl s:Int} {i n:Nat} {c x:UInt8} {t:Tm} {a b:Bool} {nm:List UInt8} {kz l:List Tm} {A:Box}
open Go.Proofs
def okB (i:Nat) (c:UInt8):Bool:=ZkS c||(decide (i≠0)&&Zmi c)
def okL:Nat→Bs→Bool
 |_,[]=>true
 |i,c::r=>okB i c&&okL (i+1) r
theorem Zgs (i:Nat):∀ r:Bs,okL (i+1) r=r.all (fun x=>ZkS x||Zmi x)
 | []=>rfl
 | c :: r => by
   simp only [okL,List.all_cons,Zgs (i+1) r,okB]
   simp
theorem ZgC (s:Bs):Yx s=(okL 0 s&&(decide (1≤s.length)&&decide (s.length≤8))):=by
 cases s with
 |nil=>rfl
 | cons c r =>
   simp only [Yx,okL,Zgs,okB,List.length_cons]
   have e:decide (r.length≤7)=(decide (1≤r.length+1)&&decide (r.length+1≤8)):=by
    rw [Bool.eq_iff_iff];simp
   rw [e]
   simp [Bool.and_assoc]
theorem Zbz (l:List Bs):(ZM l).length=l.length:=by simp [ZM]
theorem QA {s:Bs} (h:s[i]? = some c):s.drop i=c::s.drop (i+1):=by
 obtain ⟨hi,rfl⟩:=List.getElem?_eq_some_iff.1 h
 exact List.drop_eq_getElem_cons hi
theorem Zlf {s:Bs} (h:s[i]? = some c):Vi E0 9 (.str s) (.int .i64 (i:Int))=some (.int .u8 (c.toNat:Int)):=by
 have en:nat? (.int .i64 (i:Int))=some i:=rfl
 have hn:nth s i=some c:=by rw [ZA];exact h
 simp only [Vi,e9s,en,hn]
 rfl
theorem Zsl {s:Bs} (hs:s.length≤100000):∀ H,CallOk E0 Tryz.prog 216 [.str s] H (.bool (Yx s)) H:=by
 refine Jw tOk fe216.ok rfl ?_
 repeat' first|refine Jt ?_|refine Jo ?_|fail
 refine Wp.while (fun m tm H => ∃ (i : Nat) (base : TM), i + m = s.length ∧ okL 0 s = okL i (s.drop i) ∧
   tm=ovr base [(0,.str s),(3,.int .i64 (i:Int))]∧H=hNil)
  (fun m tm H hI=>?_) s.length _ _ ⟨0,_,by omega,by simp,Zi ⟨rfl,rfl,trivial⟩,rfl⟩
 obtain ⟨i,base,hi,hf,rfl,rfl⟩:=hI
 by_cases hlt:i<s.length
 · obtain ⟨c, hx⟩ : ∃ c, s[i]? = some c := ⟨s[i], by simp⟩
   have hia:=Zlf hx
   rw [QA hx] at hf
   simp only [okL] at hf
   have bad:okB i c=false→Yx s=false:=fun h=>by rw [ZgC,hf,h];rfl
   have e0:okB i c=(decide (97≤(c.toNat:Int))&&decide ((c.toNat:Int)≤122)||(!((i:Int)==0)&&(!decide ((c.toNat:Int)<48)&& !decide ((57:Int)<(c.toNat:Int))))):=by
    have a1:decide (97≤c.toNat)=decide (97≤(c.toNat:Int)):=by rw [Bool.eq_iff_iff];simp;omega
    have a2:decide (c.toNat≤122)=decide ((c.toNat:Int)≤122):=by rw [Bool.eq_iff_iff];simp;omega
    have a3:decide (48≤c.toNat)= !decide ((c.toNat:Int)<48):=by rw [Bool.eq_iff_iff];simp;omega
    have a4:decide (c.toNat≤57)= !decide ((57:Int)<(c.toNat:Int)):=by rw [Bool.eq_iff_iff];simp;omega
    have a5:decide (i≠0)= !((i:Int)==0):=by rw [Bool.eq_iff_iff];simp
    simp only [okB,ZkS,Zmi,a1,a2,a3,a4,a5]
   repeat' first|refine Jk ?_|refine JX ?_|refine Jt ?_|refine Jb ?_ ?_|refine Jo ?_|intro hb
   all_goals first
    | (rw [bad (by rw [e0];simp only [*];first|done|rfl)];done)
    | (have e1 : okB i c = true := by (rw [e0]; simp only [*]; first | done | rfl)
       refine LoopI.go (m-1) (by omega) ⟨i+1,_,by omega,by rw [hf,e1];rfl,Zi ⟨rfl,Zj (Zg (n:=i+1) (by omega)),trivial⟩,rfl⟩)
    | (exfalso;clear hf bad e0;simp_all;done)
 · have e : i = s.length := by omega
   subst e
   rw [List.drop_length] at hf
   have hl:Yx s=(decide (1≤Int.ofNat s.length)&&decide (Int.ofNat s.length≤8)):=by
    rw [ZgC,hf]
    have a1:decide (1≤s.length)=decide (1≤Int.ofNat s.length):=by rw [Bool.eq_iff_iff];simp;omega
    have a2:decide (s.length≤8)=decide (Int.ofNat s.length≤8):=by rw [Bool.eq_iff_iff];simp;omega
    rw [a1,a2];rfl
   repeat' first|refine Jk ?_|refine Jt ?_|refine Jb ?_ ?_|refine Jo ?_|intro hb
   · exfalso;simp at hb
   all_goals (rw [hl];simp only [*];rfl)
def Zae (cur r:Bs):List Bs:=match ZG r with
 | []=>[cur]
 |x::l=>(cur++x)::l
theorem ZaT (r:Bs):Zae [] r=ZG r:=by
 unfold Zae
 cases h:ZG r with
 |nil=>exact absurd h (WM r)
 |cons x l=>rfl
theorem Zjz (cur:Bs):Zae cur []= [cur]:=by simp [Zae,ZG]
theorem Zi2 (cur r:Bs):Zae cur (46::r)=cur::Zae [] r:=by
 rw [ZaT]
 simp [Zae,ZG]
theorem Zg7 {cur r:Bs} (h:c≠46):Zae cur (c::r)=Zae (cur++ [c]) r:=by
 have h2:(c==46)=false:=by simpa using h
 simp only [Zae,ZG,h2]
 cases hs:ZG r with
 |nil=>exact absurd hs (WM r)
 |cons x l=>simp
def Zpo:List Bs→PV
 | []=> .nils
 |x::l=> .sl (.tok l.length) 1 (ZM (x::l))
def Zpk:List Bs→Heap
 | []=>hNil
 |_::l=>⟨[],0,[l.length],l.length+1⟩
theorem Zm0 {acc:List Bs} (cur:Bs) (h:acc.length≤200000):Yf E0 61 61 (Zpo acc) (.sl .full 1 [[.str cur]]) (Zpk acc)=some (Zpo (acc++ [cur]),Zpk (acc++ [cur])):=by
 have hz:(E0.T 9)=some ⟨.string,1,16,.str []⟩:=e9s
 cases acc with
 | nil =>
   show Yf E0 61 61 .nils _ _=_
   simp only [Yf,Wl,e22,hz]
   rfl
 | cons x l =>
   have hf:WG (ZM (x::l)).length 1 16=true:=by
    simp only [WG,Bool.and_eq_true,Nat.ble_eq,Zbz]
    omega
   have he:Wl E0 61 61 (.sl (.tok l.length) 1 (ZM (x::l))) (.sl .full 1 [[.str cur]]) ⟨[],0,[l.length],l.length+1⟩=some (1,16,[[.str cur]]):=by
    simp only [Wl,e22,hz]
    rfl
   show Yf E0 61 61 (.sl (.tok l.length) 1 (ZM (x::l))) _ ⟨[],0,[l.length],l.length+1⟩=_
   have ht:Zbg (ZcX E0 61) (ZM (x::l)++ [[.str cur]])=true:=Zak (by simp [noB,ZM,noC])
   have hn:noB [[PV.str cur]]=true:=rfl
   simp only [Yf,he,hf,ht,hn,Bool.or_true,Bool.and_self,List.length_cons,List.length_nil,if_true,X5]
   simp [Zpo,Zpk,ZM]
def XQ (s:Bs):PV:=match (ZG s).all Yx with
 |true=> .tup [.sl .none 1 (ZM (ZG s)),.bool (decide ((ZG s).length≤4))]
 |false=> .tup [.nils,.bool false]
theorem ZsG {s:Bs} (hs:s.length≤100000):∀ H,CallOk E0 Tryz.prog 172 [.str s] H (XQ s) H:=by
 have hfr:frz3 0 hNil (XQ s)=some (XQ s):=by
  unfold XQ
  cases h:(ZG s).all Yx with
  | false=>rfl
  | true=>rfl
 refine Jw tOk fe172.ok hfr ?_
 repeat' first|refine Jt ?_|refine Jo ?_|fail
 refine Wp.while (fun m tm H => ∃ (i : Nat) (acc : List Bs) (cur : Bs) (base : TM), i + m = s.length + 1 ∧ acc.length ≤ i ∧ cur.length ≤ i ∧ acc.all Yx = true ∧
   (i≤s.length→ZG s=acc++Zae cur (s.drop i))∧(i=s.length+1→ZG s=acc)∧
   tm=ovr base [(0,.str s),(4,Zpo acc),(5,.str cur),(6,.int .i64 (i:Int))]∧H=Zpk acc)
  (fun m tm H hI=>?_) (s.length+1) _ _ ⟨0,[],[],_,by omega,by simp,by simp,rfl,fun _=>(ZaT s).symm,fun h=>absurd h (by omega),Zi ⟨rfl,rfl,rfl,rfl,trivial⟩,rfl⟩
 obtain ⟨i,acc,cur,base,hi,hal,hcl,hall,h1,h2,rfl,rfl⟩:=hI
 have happ:=Zm0 (acc:=acc) cur (by omega)
 have hi3:i≤s.length∨i=s.length+1:=by omega
 have bad:∀ rest,ZG s=acc++cur::rest→Yx cur=false→XQ s= .tup [.nils,.bool false]:=fun rest e h=>by
  have:(ZG s).all Yx=false:=by rw [e];simp [h]
  simp only [XQ,this]
 have hall2:Yx cur=true→(acc++ [cur]).all Yx=true:=fun h=>by simp [hall,h]
 by_cases hlt:i<s.length
 · obtain ⟨c, hx⟩ : ∃ c, s[i]? = some c := ⟨s[i], by simp⟩
   have hc:=Zsl (s:=cur) (by omega)
   have hia:=Zlf hx
   have hsp:=h1 (by omega)
   rw [QA hx] at hsp
   by_cases hc46:c=46
   · subst hc46
     rw [Zi2] at hsp
     cases hlb:Yx cur with
     | false =>
       rw [hlb] at hc
       repeat' first|refine Jk ?_|refine Jc (hc _) ?_|refine JX ?_|refine Jt ?_|refine Jb ?_ ?_|refine Jo ?_|intro hb
       all_goals first
        | (rw [bad _ hsp hlb];rfl)
        | (exfalso;simp at hb;omega)
     | true =>
       rw [hlb] at hc
       repeat' first|refine Jk ?_|refine Jc (hc _) ?_|refine Js ?_|refine JA ?_|refine JX ?_|refine Jt ?_|refine Jb ?_ ?_|refine Jo ?_|intro hb
       all_goals first
        | (refine LoopI.go (m-1) (by omega) ⟨i+1,acc++ [cur],[],_,by omega,by simp;omega,by simp,hall2 hlb,fun _=>by rw [hsp];simp,fun h=>absurd h (by omega),Zi ⟨rfl,rfl,rfl,Zj (Zg (n:=i+1) (by omega)),trivial⟩,rfl⟩)
        | (exfalso;simp at hb;omega)
   · rw [Zg7 hc46] at hsp
     have hsl:ZW E0 9 (.str s) (some (.int .i64 (i:Int))) (some (.int .i64 (IntKind.i64.wrap ((i:Int)+1)))) none=some (.str [c]):=by
      have en:nat? (.int .i64 (i:Int))=some i:=rfl
      have en2:nat? (.int .i64 ((i+1:Nat):Int))=some (i+1):=rfl
      have ew:IntKind.i64.wrap ((i:Int)+1)=((i+1:Nat):Int):=by
       have:=Zg (n:=i+1) (by omega)
       exact this
      rw [ew]
      simp only [ZW,e9s,Xa,en,en2,if_pos (show i+1≤s.length by omega),if_pos (show i≤i+1 by omega)]
      have e1:i+1-i=1:=by omega
      rw [List.drop_take,e1,QA hx]
      rfl
     have hne:¬ ((c.toNat:Int)=46):=fun h=>hc46 ((ZhG c).1 h)
     have hcat:ZP E0 .add 9 (.str cur) (.str [c])=some (.str (cur++ [c])):=by
      simp only [ZP,Zfq]
      rw [if_pos (by simp;omega)]
     repeat' first|refine Jk ?_|refine Jc (hc _) ?_|refine Js ?_|refine JA ?_|refine JS ?_|refine JX ?_|refine Ji ?_|refine Jt ?_|refine Jb ?_ ?_|refine Jo ?_|intro hb
     all_goals first
      | (refine LoopI.go (m-1) (by omega) ⟨i+1,acc,cur++ [c],_,by omega,by omega,by simp;omega,hall,fun _=>hsp,fun h=>absurd h (by omega),Zi ⟨rfl,rfl,rfl,Zj (Zg (n:=i+1) (by omega)),trivial⟩,rfl⟩)
      | (exfalso;clear happ hc bad hall2 h1 h2 hsp hia hsl hcat hfr;simp_all;first|done|omega)
 · by_cases hle : i = s.length
   · have hc := Zsl (s := cur) (by omega)
     have hsp:=h1 (by omega)
     have hdr:s.drop i= []:=by rw [hle];simp
     rw [hdr,Zjz] at hsp
     cases hlb:Yx cur with
     | false =>
       rw [hlb] at hc
       repeat' first|refine Jk ?_|refine Jc (hc _) ?_|refine Jt ?_|refine Jb ?_ ?_|refine Jo ?_|intro hb
       all_goals first
        | (rw [bad [] hsp hlb];rfl)
        | (exfalso;simp at hb;omega)
        | trace_state
     | true =>
       rw [hlb] at hc
       repeat' first|refine Jk ?_|refine Jc (hc _) ?_|refine Js ?_|refine JA ?_|refine Jt ?_|refine Jb ?_ ?_|refine Jo ?_|intro hb
       all_goals first
        | (refine LoopI.go (m-1) (by omega) ⟨i+1,acc++ [cur],[],_,by omega,by simp;omega,by simp,hall2 hlb,fun h=>absurd h (by omega),fun _=>hsp,Zi ⟨rfl,rfl,rfl,Zj (Zg (n:=i+1) (by omega)),trivial⟩,rfl⟩)
        | (exfalso;simp at hb;omega)
        | trace_state
   · have hsp := h2 (by omega)
     cases acc with
     | nil=>exact absurd hsp (WM s)
     | cons x l =>
       have hl:XQ s= .tup [.sl .none 1 (ZM (x::l)),.bool (decide ((x::l).length≤4))]:=by
        simp only [XQ,hsp,hall]
       rw [hl]
       have e4:decide ((x::l).length≤4)=decide (Int.ofNat (ZM (x::l)).length≤4):=by
        rw [Zbz,Bool.eq_iff_iff];simp;omega
       have hno:decide ((i:Int)≤Int.ofNat s.length)=false:=by simp;omega
       repeat' first|refine Jk ?_|refine Jt ?_|refine Jb ?_ ?_|refine Jo ?_|intro hb
       all_goals first
        | (rw [e4,hb];rfl)
        | (exfalso;rename_i hq;rw [hno] at hq;cases hq)
def ZrX (a b:Int):Int:=if a<b then -1 else if b<a then 1 else 0
theorem c80 (a b:Int):∀ H,CallOk E0 Tryz.prog 80 [.int .i64 a,.int .i64 b] H (.int .i64 (ZrX a b)) H:=by
 refine Jw tOk fe80.ok rfl ?_
 repeat' first|refine Jb ?_ ?_|refine Jo ?_|intro hb
 all_goals simp_all [ZrX]
 all_goals omega
theorem VF (k:Int) (nm:List UInt8) (s:Int) (b:Bool) (kz:List Tm):XY [.int .i64 k,.str nm,.int .i64 s,slV b 4 (Za kz)]=some [.int .i64 k,.str nm,.int .i64 s,slV b 4 (Za kz)]:=by
 simp only [XY,ZD]
 rfl
theorem c81 (ht:t.Ok):t.size<4611686018427387904→∀ H,CallOk E0 Tryz.prog 81 [.agg t.cells] H (.int .i64 (t.size:Int)) H:=by
 induction ht with
 | @mk k nm s b kz hk hs hn hl hok ih=>
 intro hsz
 refine Jw tOk fe81.ok rfl ?_
 repeat' first|refine Jo ?_|fail
 refine Wp.while (fun m tm H=>∃ i base,i+m=kz.length∧tm=ovr base [(1,.ptr 0 4 0 0),(3,.int .i64 ((1+Zx (kz.take i):Nat):Int)),(4,.int .i64 (i:Int))]∧H=⟨[.cells 4 [[.int .i64 k,.str nm,.int .i64 s,slV b 4 (Za kz)]]],0,[],0⟩)
  (fun m tm H hI=>?_) kz.length _ _ ⟨0,_,by omega,Zi ⟨rfl,rfl,rfl,trivial⟩,rfl⟩
 obtain ⟨i,base,hi,rfl,rfl⟩:=hI
 simp only [Tm.size] at hsz
 unfold maxLen at hl
 by_cases hlt:i<kz.length
 · obtain ⟨t', ht'⟩ : ∃ t', kz[i]? = some t' := ⟨kz[i], by simp⟩
   have hm:t'∈kz:=List.mem_of_getElem? ht'
   have hle:=XB hm
   have hst:=VU ht'
   have hsl:=Xy kz (i+1)
   have hc:=ih t' hm (by omega)
   obtain ⟨k',nm',s',b',kz'⟩:=t'
   have hj:=Zn ht'
   repeat' first|refine Jc (hc _) ?_|refine Jl ?_|refine Jx ?_|refine Jb ?_ ?_|refine Jo ?_|intro hb
   · refine LoopI.go (m - 1) (by omega) ⟨i + 1, _, by omega, Zi ⟨rfl, ?_, ?_, trivial⟩, rfl⟩
     · refine Zj ?_
       rw [hst, ← Nat.add_assoc,Int.natCast_add (1+Zx (kz.take i)), ← Int.natCast_add]
       exact Zg (by omega)
     · exact Zj (Zg (n:=i+1) (by omega))
   · rw [Zb] at hb;simp at hb;omega
 · have e : i = kz.length := by omega
   subst e
   repeat' first|refine Jl ?_|refine Jb ?_ ?_|refine Jo ?_|intro hb
   · rw [Zb] at hb;simp at hb
   · simp [Tm.size]
theorem Zn8 (k:Int) (nm:List UInt8) (s:Int) (b:Bool) (kz:List Tm) (w:List UInt8):∀ H,CallOk E0 Tryz.prog 135 [.agg [.int .i64 k,.str nm,.int .i64 s,slV b 4 (Za kz)],.str w] H (.bool (isF k nm w)) H:=by
 refine Jw tOk fe135.ok rfl ?_ (by simp [ZJ,frzG,VF,frz1])
 repeat' first|refine Jk ?_|refine Jt ?_|refine Jb ?_ ?_|refine Jo ?_|intro hb
 all_goals simp_all [isF]
theorem Ze1 (h:a=true↔b=true):PV.bool a=PV.bool b:=by rw [Bool.eq_iff_iff.2 h]
theorem Zsn (c:Int):∀ H,CallOk E0 Tryz.prog 164 [.int .u8 c] H (.bool (Ze5 c)) H:=by
 refine Jw tOk fe164.ok rfl ?_
 repeat' first|refine Jk ?_|refine Jt ?_|refine Jb ?_ ?_|refine Jo ?_|intro hb
 all_goals
  refine Ze1 ?_
  simp [Ze5,Zga,Znm] at *
  try omega
theorem ZsE (c:Int):∀ H,CallOk E0 Tryz.prog 128 [.int .u8 c] H (.bool (Zga c)) H:=by
 refine Jw tOk fe128.ok rfl ?_
 repeat' first|refine Jk ?_|refine Jt ?_|refine Jb ?_ ?_|refine Jo ?_|intro hb
 all_goals
  refine Ze1 ?_
  simp [Zga] at *
  try omega
theorem Zvo (c:Int):∀ H,CallOk E0 Tryz.prog 129 [.int .u8 c] H (.bool (Znm c)) H:=by
 refine Jw tOk fe129.ok rfl ?_
 repeat' first|refine Jk ?_|refine Jt ?_|refine Jb ?_ ?_|refine Jo ?_|intro hb
 all_goals
  refine Ze1 ?_
  simp [Znm] at *
  try omega
theorem Ua {s:List UInt8} (h:s[i]? = some x) (hx:Vh x=false):s.all Vh=false:=by
 rw [List.all_eq_false]
 exact ⟨x,List.mem_of_getElem? h,by simp [hx]⟩
theorem ZbZ (c:UInt8) (r:List UInt8):Vs (c::r)=(decide ((c::r).length≤24)&&(Zga (Int.ofNat c.toNat)&&(c::r).all Vh)):=rfl
theorem Zh8 {c:Int} (h:Ze5 c=true) (h1:¬ (48≤c∧c≤57)) (h2:c≠95) (h3:c≠35):Zga c=true:=by
 simp [Ze5,Zga,Znm] at *
 omega
theorem eTs:E0.T 9=some ⟨.string,1,16,.str []⟩:=rfl
theorem Zpd {s:List UInt8} (h:s[i]? = some c):Vi E0 9 (.str s) (.int .i64 (i:Int))=some (.int .u8 (c.toNat:Int)):=by
 have en:nat? (.int .i64 (i:Int))=some i:=rfl
 have hn:nth s i=some c:=by rw [ZA];exact h
 simp only [Vi,eTs,en,hn]
 rfl
theorem ZaQ {c:Bool} (h:a=false∨b=false∨c=false):PV.bool false=PV.bool (a&&(b&&c)):=by
 rcases h with rfl|rfl|rfl<;>simp
theorem Zgf {s:List UInt8} (h:s[i]? = some x) (hx:Vh x=true) (ht:(s.take i).all Vh=true):(s.take (i+1)).all Vh=true:=by
 rw [List.take_add_one,h]
 simp [List.all_append,ht,hx]
theorem Zvq (s:List UInt8) (hs:s.length≤maxLen):∀ H,CallOk E0 Tryz.prog 126 [.str s] H (.bool (Vs s)) H:=by
 refine Jw tOk fe126.ok rfl ?_
 cases s with
 | nil =>
   repeat' first|refine Jk ?_|refine Jt ?_|refine Jo ?_|fail
   all_goals first
    | rfl
    | (exfalso;simp at hb;done)
 | cons c r =>
   have hc:=Zsn (Int.ofNat c.toNat)
   obtain ⟨S,hS⟩:∃ S,S=Ze5 (Int.ofNat c.toNat):=⟨_,rfl⟩
   have hj:=Zpd (show (c::r)[0]? = some c from rfl)
   rw [ZbZ]
   obtain ⟨s,hss⟩:∃ s,s=c::r:=⟨_,rfl⟩
   rw [← hss] at hs hj ⊢
   have hne:¬ s= []:=by rw [hss];simp
   have hm:c∈s:=by rw [hss];simp
   have hall:S=false→s.all Vh=false:=fun h=>by
    rw [List.all_eq_false]
    exact ⟨c,hm,by rw [show Vh c=S from hS.symm,h];simp⟩
   rw [← hS] at hc
   repeat' first|refine Jk ?_|refine Jc (hc _) ?_|refine JX ?_|refine Jt ?_|refine Jb ?_ ?_|refine Jo ?_|intro hb
   all_goals first
    | (exfalso;simp at hb;exact hne hb)
    | (refine ZaQ (.inl ?_);simp at hb;simp;omega)
    | (refine ZaQ (.inr (.inr (hall (by simpa using hb))));done)
    | (refine ZaQ (.inr (.inl ?_));clear hc hall hj hS hm hne hss;simp [Zga] at *;omega)
    | skip
   all_goals
    have f1:S=true:=by simpa using ‹(!S)=false›
    have f2:¬ (48≤(c.toNat:Int)∧(c.toNat:Int)≤57):=by
     first
      | (have:= ‹decide ((c.toNat:Int)≤57)=false›;simp at this;omega)
      | (have:= ‹decide (48≤(c.toNat:Int))=false›;simp at this;omega)
    have f3:(c.toNat:Int)≠95:=by simpa using ‹((c.toNat:Int)==95)=false›
    have f4:(c.toNat:Int)≠35:=by simpa using ‹((c.toNat:Int)==35)=false›
    have hlt:Zga (Int.ofNat c.toNat)=true:=Zh8 (hS ▸ f1) f2 f3 f4
    have h24:s.length≤24:=by
     have:= ‹decide (24<Int.ofNat s.length)=false›
     simp at this;omega
    rw [show (decide (s.length≤24)&&(Zga (Int.ofNat c.toNat)&&s.all Vh))=s.all Vh by simp only [h24,hlt,decide_true,Bool.true_and]]
    refine Wp.while (fun m tm H=>∃ (i:Nat),∃ base,i+m=s.length∧(s.take i).all Vh=true∧tm=ovr base [(0,.str s),(38,.int .i64 (s.length:Int)),(39,.int .i64 (i:Int))]∧H=⟨[],0,[],0⟩)
     (fun m tm H hI=>?_) s.length _ _ ⟨0,_,by omega,by simp,Zi ⟨rfl,rfl,rfl,trivial⟩,rfl⟩
    clear hc hall hj
    obtain ⟨i,base,hi,hall,rfl,rfl⟩:=hI
    by_cases hlt2:i<s.length
    · obtain ⟨d, hd⟩ : ∃ d, s[i]? = some d := ⟨s[i], by simp⟩
      have hj:=Zpd hd
      have hc:=Zsn (Int.ofNat d.toNat)
      obtain ⟨D,hD⟩:∃ D,D=Ze5 (Int.ofNat d.toNat):=⟨_,rfl⟩
      rw [← hD] at hc
      repeat' first|refine Jc (hc _) ?_|refine JX ?_|refine Jt ?_|refine Jb ?_ ?_|refine Jo ?_|intro hb
      · rw [Ua hd (by rw [show Vh d=D from hD.symm];simpa using hb)]
      · refine LoopI.go (m - 1) (by omega) ⟨i + 1, _, by omega, Zgf hd (by rw [show Vh d = D from hD.symm]; simpa using hb) hall, Zi ⟨rfl, rfl, ?_, trivial⟩, rfl⟩
        exact Zj (Zg (n:=i+1) (by unfold maxLen at hs;omega))
      · exfalso;simp at hb;omega
    · have e : i = s.length := by omega
      subst e
      repeat' first|refine Jt ?_|refine Jb ?_ ?_|refine Jo ?_|intro hb
      · exfalso;simp at hb
      · rw [← hall,List.take_length]
theorem Zhz (h:¬ (k=1∨k=2∨k=3)∨s<0∨5<s∨(k=3∧s≠0)∨(k≠3∧0<n)):Ve k nm s n=1:=if_pos h
theorem ZhH (h:¬ (¬ (k=1∨k=2∨k=3)∨s<0∨5<s∨(k=3∧s≠0)∨(k≠3∧0<n))) (h2:Vs nm=false):Ve k nm s n=2:=by unfold Ve;rw [if_neg h,if_pos h2]
theorem Zjt (h:¬ (¬ (k=1∨k=2∨k=3)∨s<0∨5<s∨(k=3∧s≠0)∨(k≠3∧0<n))) (h2:Vs nm=true) (h3:8<n):Ve k nm s n=3:=by unfold Ve;rw [if_neg h,if_neg (by simp [h2]),if_pos h3]
theorem Zjo (h:¬ (¬ (k=1∨k=2∨k=3)∨s<0∨5<s∨(k=3∧s≠0)∨(k≠3∧0<n))) (h2:Vs nm=true) (h3:¬ 8<n):Ve k nm s n=0:=by unfold Ve;rw [if_neg h,if_neg (by simp [h2]),if_neg h3]
theorem Zap {n:Int} (h:Ve k nm s kz.length=e) (he:e≠0):(Tm.mk k nm s b kz).check lvl n d=(e,n+1,if d<lvl then lvl else d):=by
 simp only [Tm.check];rw [h,if_pos he]
theorem ZkZ {n:Int} (h:Ve k nm s kz.length=0):(Tm.mk k nm s b kz).check lvl n d=XD kz (lvl+1) (n+1) (if d<lvl then lvl else d):=by
 simp only [Tm.check];rw [h,if_neg (by simp)]
theorem Zex {n n' d':Int} (h:l[i]? = some t) (hc:t.check lvl n d=(e,n',d')):XD (l.drop i) lvl n d=if e≠0 then (e,n',d') else XD (l.drop (i+1)) lvl n' d':=by
 rw [Z0 h];simp only [XD,hc]
theorem Zg6 (h:l[i]? = some t):Zx (l.drop i)=t.size+Zx (l.drop (i+1)):=by
 rw [Z0 h];simp only [Zx]
mutual
theorem Qq {n m:Nat} (h:n≤m):∀ {p:PV},under n p=true→under m p=true
 | .ptr id _ _ _,hp=>by simp only [under,Nat.blt_eq] at *;omega
 | .own id _ _ _,hp=>by simp only [under,Nat.blt_eq] at *;omega
 | .map id,hp=>by simp only [under,Nat.blt_eq] at *;omega
 | .agg cs,hp=>by simp only [under] at *;exact XI h hp
 | .tup cs,hp=>by simp only [under] at *;exact XI h hp
 | .fn _ cs,hp=>by simp only [under] at *;exact XI h hp
 | .undef,_| .bool _,_| .int _ _,_| .str _,_| .sl _ _ _,_| .fptr _ _,_| .nilp,_| .nils,_| .nilm,_| .nilf,_=>rfl
theorem XI {n m:Nat} (h:n≤m):∀ {l:List PV},ZI n l=true→ZI m l=true
 | [],_=>rfl
 | p :: r, hl => by
   simp only [ZI,Bool.and_eq_true] at *
   exact ⟨Qq h hl.1,XI h hl.2⟩
end
theorem Zh1 {m:Nat} (h:n≤m) {b:Box} (hb:Yw n b=true):Yw m b=true:=by
 cases b with
 |cells es el=>exact List.all_eq_true.2 fun x hx=>XI h (List.all_eq_true.1 hb x hx)
 | map es =>
   refine List.all_eq_true.2 fun x hx=>?_
   have:=List.all_eq_true.1 hb x hx
   simp only [Bool.and_eq_true] at this ⊢
   exact ⟨Qq h this.1,Qq h this.2⟩
 |sp t cs=>exact XI h hb
 |dead=>rfl
theorem Zbs (hA:Yw n A=true) (k k':IntKind) (x y:Int):[A,.cells 1 [[.int k x]],.cells 1 [[.int k' y]]].all (Yw n)=true:=by
 simp only [List.all_cons,hA];rfl
theorem ZoS {B:Box} (hA:Yw n A=true) (k k':IntKind) (x y:Int) (hB:Yw n B=true):[A,.cells 1 [[.int k x]],.cells 1 [[.int k' y]],B].all (Yw n)=true:=by
 simp only [List.all_cons,hA,hB];rfl
theorem c86 (ht : t.Ok) : ∀ {A : Box}, Yw 3 A = true → ∀ {lvl n d : Int}, 0 ≤ lvl → lvl + t.size < 4611686018427387904 → 0 ≤ n → n + t.size < 4611686018427387904 → 0 ≤ d → d < 4611686018427387904 →
  CallOk E0 Tryz.prog 86 [.agg t.cells,.int .i64 lvl,.ptr 1 1 0 0,.ptr 2 1 0 0] ⟨[A,.cells 1 [[.int .i64 n]],.cells 1 [[.int .i64 d]]],0,[],0⟩ (.int .i64 (t.check lvl n d).1) ⟨[A,.cells 1 [[.int .i64 (t.check lvl n d).2.1]],.cells 1 [[.int .i64 (t.check lvl n d).2.2]]],0,[],0⟩:=by
 induction ht with
 | @mk k nm s b kz hk hs hn hl hok ih=>
 intro A hA lvl n d hl0 hl1 hn0 hn1 hd0 hd1
 simp only [Tm.size] at hl1 hn1
 obtain ⟨e,n',d',hchk⟩:∃ e n' d',(Tm.mk k nm s b kz).check lvl n d=(e,n',d'):=⟨_,_,_,rfl⟩
 rw [hchk]
 have hw:IntKind.i64.wrap (n+1)=n+1:=IntWalk.i64_in _ (by omega)
 have hw2:IntKind.i64.wrap (lvl+1)=lvl+1:=IntWalk.i64_in _ (by omega)
 have hc:=Zvq nm hn
 obtain ⟨N,hN⟩:∃ N,N=Vs nm:=⟨_,rfl⟩
 rw [← hN] at hc
 refine ZgE (own:=fun _=>false) tOk fe86.ok ?_
 refine Wp.seq ?_
 repeat' first|refine Jk ?_|refine Jc (hc _) ?_|refine Jl ?_|refine Jt ?_|refine Jb ?_ ?_|refine Jo ?_|intro hb
 all_goals first
  | (have h0 := Zhz (k := k) (nm := nm) (s := s) (n := kz.length) (by clear ih hok hc hchk; simp only [Zb, beq_iff_eq, bne_iff_ne, decide_eq_true_eq, decide_eq_false_iff_not, beq_eq_false_iff_ne, bne_eq_false_iff_eq] at *; omega)
     cases hchk.symm.trans (Zap h0 (by decide))
     exact DropF.ret [(8,.int .i64 1)] ⟨rfl,trivial⟩ rfl rfl (Zbs hA _ _ _ _) (RetE.ret rfl rfl (by rw [hw];rfl)))
  | (have h0 := ZhH (k := k) (nm := nm) (s := s) (n := kz.length) (by clear ih hok hc hchk; simp only [Zb, beq_iff_eq, decide_eq_true_eq, decide_eq_false_iff_not, beq_eq_false_iff_ne, bne_eq_false_iff_eq] at *; omega) (by rw [← hN]; simpa using hb)
     cases hchk.symm.trans (Zap h0 (by decide))
     exact DropF.ret [(8,.int .i64 2)] ⟨rfl,trivial⟩ rfl rfl (Zbs hA _ _ _ _) (RetE.ret rfl rfl (by rw [hw];rfl)))
  | (have h0 := Zjt (k := k) (nm := nm) (s := s) (n := kz.length) (by clear ih hok hc hchk; simp only [Zb, beq_iff_eq, decide_eq_true_eq, decide_eq_false_iff_not, beq_eq_false_iff_ne, bne_eq_false_iff_eq] at *; omega) (by rw [← hN]; simpa using ‹(!N) = false›) (by simp [Zb] at hb; omega)
     cases hchk.symm.trans (Zap h0 (by decide))
     exact DropF.ret [(8,.int .i64 3)] ⟨rfl,trivial⟩ rfl rfl (Zbs hA _ _ _ _) (RetE.ret rfl rfl (by rw [hw];rfl)))
  | skip
 all_goals
  have h0:Ve k nm s kz.length=0:=Zjo (by clear ih hok hc hchk;simp only [Zb,beq_iff_eq,decide_eq_false_iff_not,beq_eq_false_iff_ne,bne_eq_false_iff_eq] at *;omega) (by rw [← hN];simpa using ‹(!N)=false›) (by simp [Zb] at hb;omega)
  have hgo:=hchk.symm.trans (ZkZ h0)
  clear hchk hc h0
  refine Wp.while (fun m tm H=>∃ (i:Nat),∃ base,∃ n1 d1:Int,i+m=kz.length∧(e,n',d')=XD (kz.drop i) (lvl+1) n1 d1∧0≤n1∧n1+Zx (kz.drop i)<4611686018427387904∧0≤d1∧d1<4611686018427387904∧tm=ovr base [(1,.int .i64 lvl),(2,.ptr 1 1 0 0),(3,.ptr 2 1 0 0),(57,slV b 4 (Za kz)),(58,.int .i64 (kz.length:Int)),(59,.int .i64 (i:Int))]∧H=⟨[A,.cells 1 [[.int .i64 n1]],.cells 1 [[.int .i64 d1]],.cells 4 [[.int .i64 k,.str nm,.int .i64 s,slV b 4 (Za kz)]]],0,[],0⟩)
   (fun m tm H hI=>Wp.drop ?_) kz.length _ _ ⟨0,_,n+1,if d<lvl then lvl else d,by omega,by simpa using hgo,by omega,by simp;omega,by split<;>omega,by split<;>omega,Zi ⟨rfl,rfl,rfl,rfl,Zj (by rw [Zb]),rfl,trivial⟩,by rw [hw]⟩
  clear hgo
  obtain ⟨i,base,n1,d1,hi,hgo,hn2,hn3,hd2,hd3,rfl,rfl⟩:=hI
  unfold maxLen at hl
  by_cases hlt:i<kz.length
  · obtain ⟨t', ht'⟩ : ∃ t', kz[i]? = some t' := ⟨kz[i], by simp⟩
    have hm:t'∈kz:=List.mem_of_getElem? ht'
    have hle:=XB hm
    have hsd:=Zg6 ht'
    have hr:=t'.check_range (lvl+1) n1 d1
    obtain ⟨e1,n2,d2,h1⟩:∃ e1 n2 d2,t'.check (lvl+1) n1 d1=(e1,n2,d2):=⟨_,_,_,rfl⟩
    have hc:=ih t' hm hA (lvl:=lvl+1) (n:=n1) (d:=d1) (by omega) (by omega) (by omega) (by omega) (by omega) (by omega)
    rw [h1] at hc hr
    simp only [] at hc hr
    rw [← hw2] at hc
    rw [Zex ht' h1] at hgo
    obtain ⟨k',nm',s',b',kz'⟩:=t'
    have hc:=hc.ext (ext:=[.cells 4 [[.int .i64 k,.str nm,.int .i64 s,slV b 4 (Za kz)]],.cells 4 [[.int .i64 k',.str nm',.int .i64 s',slV b' 4 (Za kz')]]]) rfl (by simp [ZI,under,Tm.cells,Zl]) (Zbs hA _ _ _ _) (by simp)
    have hj:=Zn ht'
    repeat' first|refine Jc hc ?_|refine Jx ?_|refine Jb ?_ ?_|refine Jz ?_ ?_|refine Jo ?_|intro hb
    · have hb1 : e1 ≠ 0 := by simpa using hb
      rw [if_pos hb1] at hgo
      cases hgo
      exact DropF.ret [(8,.int .i64 _)] ⟨rfl,trivial⟩ rfl rfl (Zbs hA _ _ _ _) (RetE.ret rfl rfl rfl)
    · have hb1 : ¬ e1 ≠ 0 := by simpa using hb
      rw [if_neg hb1] at hgo
      exact DropQ.go [(1,.int .i64 lvl),(2,.ptr 1 1 0 0),(3,.ptr 2 1 0 0),(57,slV b 4 (Za kz)),(58,.int .i64 (kz.length:Int)),(59,.int .i64 ((i+1:Nat):Int))] ⟨rfl,rfl,rfl,rfl,rfl,Zj (Zg (n:=i+1) (by omega)),trivial⟩
       (by simp [Zl,under]) rfl (ZoS (Zh1 (show 3≤4 by omega) hA) _ _ _ _ (by simp [Yw,ZI,Zl,under])) (LoopI.go (m-1) (by omega) ⟨i+1,_,n2,d2,by omega,hgo,by omega,by omega,by omega,by omega,rfl,rfl⟩)
    · exfalso;simp at hb;omega
  · have e : i = kz.length := by omega
    subst e
    repeat' first|refine Jz ?_ ?_|refine Jo ?_|intro hb
    · exfalso;simp at hb
    · simp only [List.drop_length, XD] at hgo
      cases hgo
      exact DropF.ret [(8,.int .i64 0)] ⟨rfl,trivial⟩ rfl rfl (Zbs hA _ _ _ _) (RetE.ret rfl rfl rfl)
theorem c41 (ht:t.Ok) (hsz:t.size<4611686018427387000):∀ H,CallOk E0 Tryz.prog 41 [.agg t.cells] H (.int .i64 t.valid) H:=by
 have hc:=c86 ht (A:= .cells 4 [t.cells]) (by obtain ⟨k,nm,s,b,kz⟩:=t;simp [Yw,Tm.cells,ZI,Zl,under]) (lvl:=1) (n:=0) (d:=0) (by omega) (by omega) (by omega) (by omega) (by omega) (by omega)
 rw [t.valid_check]
 obtain ⟨e,n,d,h1⟩:∃ e n d,t.check 1 0 0=(e,n,d):=⟨_,_,_,rfl⟩
 rw [h1] at hc ⊢
 obtain ⟨k,nm,s,b,kz⟩:=t
 refine Jw tOk fe41.ok rfl ?_
 repeat' first|refine Jk ?_|refine Jc hc ?_|refine Jt ?_|refine Jb ?_ ?_|refine Jo ?_|intro hb
 all_goals (refine Zj ?_;clear hc h1;simp only [bne_iff_ne,bne_eq_false_iff_eq,decide_eq_true_eq,decide_eq_false_iff_not] at *;(repeat' split)<;>omega)
