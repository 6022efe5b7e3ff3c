/-
  The symbols of the theory, and the terms that it allows: the program's text.
-/
import Derived.Test.YtkaocdljkonfaaaGreatDoorTv3
set_option maxHeartbeats 64000000
set_option maxRecDepth 100000
namespace Go.Vm.Seat
variable {nm:List UInt8} {kids l:List Tm} {i:Nat} {t:Tm}
open Go.Proofs
theorem ZvR:∀ H,CallOk E0 Tryz.prog 184 [] H (slV true 4 (Zcf ZcH)) H:=by
 have e:slV true 4 (Zcf ZcH)= .sl .none 4 (Zcf ZcH):=Zw _ _ _ _
 rw [e]
 exact Xn (x:=⟨184,[],.sl .none 4 (Zcf ZcH)⟩) tOk follows fOk zOk (fuel:=100) (k:=20) (by kernel_rfl)
theorem U2 {l:List Sym} {s:Sym} (h:l[i]? = some s):Vn nm (l.drop i)=if (s.name==nm)=true then some s else Vn nm (l.drop (i+1)):=by
 rw [ZM h];simp only [Vn]
theorem Zr1 (nm:List UInt8):∀ H,CallOk E0 Tryz.prog 151 [.str nm] H (.agg (Qd nm).cells) H:=by
 have hc:=ZvR
 obtain ⟨l,hl⟩:∃ l,l=ZcH:=⟨_,rfl⟩
 have hlen:l.length=21:=by rw [hl];rfl
 unfold Qd
 rw [← hl] at hc ⊢
 refine Jw tOk fe151.ok rfl ?_
 repeat' first|refine Jc (hc _) ?_|refine Jl ?_|refine Jo ?_|fail
 refine Wp.while (fun m tm H=>∃ (i:Nat),∃ base,i+m=l.length∧Vn nm l=Vn nm (l.drop i)∧tm=ovr base [(0,.str nm),(2,.ptr 0 4 0 0),(5,slV true 4 (Zcf l)),(6,.int .i64 (l.length:Int)),(7,.int .i64 (i:Int))]∧H=⟨[.cells 4 [[.str [],.int .i64 0,.int .i64 0,.int .i64 0]]],0,[],0⟩)
  (fun m tm H hI=>Wp.drop ?_) l.length _ _ ⟨0,_,by omega,by simp,Zi ⟨rfl,rfl,rfl,Zh (by rw [UG]),rfl,trivial⟩,rfl⟩
 clear hc hl
 obtain ⟨i,base,hi,hgo,rfl,rfl⟩:=hI
 rw [hgo]
 by_cases hlt:i<l.length
 · obtain ⟨s, hs⟩ : ∃ s, l[i]? = some s := ⟨l[i], by simp⟩
   rw [U2 hs]
   obtain ⟨sn,sl,sm,sk⟩:=s
   have hj:(Zcf l)[i]? = some [.str sn,.int .i64 sl,.int .i64 sm,.int .i64 sk]:=Zcv hs
   repeat' first|refine Jx ?_|refine Jb ?_ ?_|refine Jz ?_ ?_|refine Jo ?_|intro hb
   · rw [if_pos (by simpa using hb)]
     rfl
   · rw [if_neg (by simpa using hb)]
     exact DropQ.go [(0,.str nm),(2,.ptr 0 4 0 0),(5,slV true 4 (Zcf l)),(6,.int .i64 (l.length:Int)),(7,.int .i64 ((i+1:Nat):Int))] ⟨rfl,rfl,rfl,rfl,Zh (Ze (n:=i+1) (by omega)),trivial⟩
      (by simp [Zm,under]) rfl (by simp [YA,ZH,under]) (LoopI.go (m-1) (by omega) ⟨i+1,_,by omega,rfl,rfl,rfl⟩)
   · exfalso;simp at hb;omega
 · have e : i = l.length := by omega
   subst e
   repeat' first|refine Jz ?_ ?_|refine Jo ?_|intro hb
   · exfalso;simp at hb
   · rw [List.drop_length]
     rfl
theorem UO {e:Int} (h:l[i]? = some t) (he:t.th=e):thL (l.drop i)=if e≠0 then e else thL (l.drop (i+1)):=by
 rw [ZM h];simp only [thL,he]
def Xa (t:Tm):Bool:=match t with| .mk k _ s _ _=> !(decide (k=3))&&decide (s=1)
theorem Zap (h:nm≠ [110,101,119]):QK nm kids=kids.all Xa:=by
 unfold QK;rw [if_neg h];rfl
theorem Zo9 {b:Bool} (h:kids[i]? = some t):Zp E0 22 (slV b 4 (Za kids)) (.int .i64 (i:Int))=some (.fptr t.cells 0):=by
 refine Wu (E:=E0) (t:=22) (e:=24) rfl rfl rfl rfl b ?_
 obtain ⟨k,nm,s,b',kids'⟩:=t
 exact Zk h
theorem Q5 {p:Tm→Bool} (h:l[i]? = some t):(l.drop i).all p=(p t&&(l.drop (i+1)).all p):=by
 rw [ZM h];rfl
theorem Zvd (ht:t.Ok):∀ H,CallOk E0 Tryz.prog 183 [.agg t.cells] H (.int .i64 t.th) H:=by
 induction ht with
 | @mk k nm s b kids hk hs hn hl hok ih=>
 have hc:=Zr1 nm
 obtain ⟨R,hR⟩:∃ R,R=(Tm.mk k nm s b kids).th:=⟨_,rfl⟩
 rw [← hR]
 simp only [Tm.th] at hR
 have hp:=ZiA (nm:=nm)
 obtain ⟨sn,sl,sm,sk,sy⟩:∃ sn sl sm sk,Qd nm=⟨sn,sl,sm,sk⟩:=⟨_,_,_,_,rfl⟩
 rw [sy] at hc hR hp
 simp only [] at hR hp
 refine Jw tOk fe183.ok rfl ?_
 repeat' first|refine Jk ?_|refine Jc (hc _) ?_|refine Jl ?_|refine Jt ?_|refine Jb ?_ ?_|refine Jo ?_|intro hb
 all_goals first
  | (rw [hR,if_pos (by simpa using hb)];done)
  | (rw [hR,if_neg (by simpa using ‹(k != 3)=false›),if_pos (by simpa using hb)];done)
  | (rw [hR,if_neg (by simpa using ‹(k != 3)=false›),if_neg (by simpa using ‹((Sym.mk sn sl sm sk).kind==0)=false›),if_pos (by rw [Zb] at hb;simp at hb;omega)];done)
  | skip
 all_goals
  rw [if_neg (by simpa using ‹(k != 3)=false›),if_neg (by simpa using ‹((Sym.mk sn sl sm sk).kind==0)=false›),if_neg (by
   have h1:= ‹decide (((Za kids).length:Int)<(Sym.mk sn sl sm sk).least)=false›
   have h2:= ‹decide ((Sym.mk sn sl sm sk).most<((Za kids).length:Int))=false›
   rw [Zb] at h1 h2
   simp at h1 h2
   omega)] at hR
  clear hc
  unfold maxLen at hl
 · have e : nm = [115, 107] := by simpa using hb
   have hsk:sk=2:=hp.2 (by simp [e])
   rw [Zap (by rw [e];simp)] at hR
   refine Wp.while (fun m tm H=>∃ (i:Nat),∃ base,i+m=kids.length∧kids.all Xa=(kids.drop i).all Xa∧tm=ovr base [(1,.ptr 0 4 0 0),(38,slV b 4 (Za kids)),(39,.int .i64 (kids.length:Int)),(40,.int .i64 (i:Int))]∧H=⟨[.cells 4 [[.int .i64 k,.str nm,.int .i64 s,slV b 4 (Za kids)]],.cells 4 [[.str sn,.int .i64 sl,.int .i64 sm,.int .i64 sk]]],0,[],0⟩)
    (fun m tm H hI=>Wp.drop ?_) kids.length _ _ ⟨0,_,by omega,by simp,Zi ⟨rfl,rfl,Zh (by rw [Zb]),rfl,trivial⟩,rfl⟩
   obtain ⟨i,base,hi,hall,rfl,rfl⟩:=hI
   by_cases hlt:i<kids.length
   · obtain ⟨t', ht'⟩ : ∃ t', kids[i]? = some t' := ⟨kids[i], by simp⟩
     rw [Q5 ht'] at hall
     obtain ⟨k',nm',s',b',kids'⟩:=t'
     have hj:=Zk ht'
     repeat' first|refine Jk ?_|refine Jl ?_|refine Jx ?_|refine Jt ?_|refine Jb ?_ ?_|refine Jz ?_ ?_|refine Jo ?_|intro hb
     · rw [hR,if_pos ⟨hsk,by rw [hall];simp at hb;simp [Xa,hb]⟩]
     · rw [hR,if_pos ⟨hsk,by rw [hall];simp at hb;simp [Xa,hb]⟩]
     · have hA : Xa (Tm.mk k' nm' s' b' kids') = true := by
         have h1:= ‹(k'==3)=false›
         have h2:= ‹(s' != 1)=false›
         simp at h1 h2
         simp [Xa,h1,h2]
       rw [hA,Bool.true_and] at hall
       exact DropQ.go [(1,.ptr 0 4 0 0),(38,slV b 4 (Za kids)),(39,.int .i64 (kids.length:Int)),(40,.int .i64 ((i+1:Nat):Int))] ⟨rfl,rfl,rfl,Zh (Ze (n:=i+1) (by omega)),trivial⟩
        (by simp [Zm,under]) rfl (by simp [YA,ZH,Zm,under]) (LoopI.go (m-1) (by omega) ⟨i+1,_,by omega,hall,rfl,rfl⟩)
     · exfalso;simp at hb;omega
   · have e : i = kids.length := by omega
     subst e
     repeat' first|refine Jl ?_|refine Jz ?_ ?_|refine Jo ?_|intro hb
     · exfalso;simp at hb
     have hall:kids.all Xa=true:=by rw [hall,List.drop_length];rfl
     rw [if_neg (by simp [hall])] at hR
     refine Wp.while (fun m tm H=>∃ (i:Nat),∃ base,i+m=kids.length∧R=thL (kids.drop i)∧tm=ovr base [(62,slV b 4 (Za kids)),(63,.int .i64 (kids.length:Int)),(64,.int .i64 (i:Int))]∧H=⟨[.cells 4 [[.int .i64 k,.str nm,.int .i64 s,slV b 4 (Za kids)]],.cells 4 [[.str sn,.int .i64 sl,.int .i64 sm,.int .i64 sk]]],0,[],0⟩)
      (fun m tm H hI=>Wp.drop ?_) kids.length _ _ ⟨0,_,by omega,by simpa using hR,Zi ⟨rfl,Zh (by rw [Zb]),rfl,trivial⟩,rfl⟩
     clear hR
     obtain ⟨i,base,hi,hR,rfl,rfl⟩:=hI
     by_cases hlt:i<kids.length
     · obtain ⟨t', ht'⟩ : ∃ t', kids[i]? = some t' := ⟨kids[i], by simp⟩
       have hm:t'∈kids:=List.mem_of_getElem? ht'
       have hc:=ih t' hm
       obtain ⟨e1,he1⟩:∃ e1,t'.th=e1:=⟨_,rfl⟩
       rw [he1] at hc
       rw [UO ht' he1] at hR
       obtain ⟨k',nm',s',b',kids'⟩:=t'
       have hj:=Zk ht'
       repeat' first|refine Jc (hc _) ?_|refine Jx ?_|refine Jb ?_ ?_|refine Jz ?_ ?_|refine Jo ?_|intro hb
       · rw [hR,if_pos (by simpa using hb)]
       · rw [if_neg (by simpa using hb)] at hR
         exact DropQ.go [(62,slV b 4 (Za kids)),(63,.int .i64 (kids.length:Int)),(64,.int .i64 ((i+1:Nat):Int))] ⟨rfl,rfl,Zh (Ze (n:=i+1) (by omega)),trivial⟩
          (by simp [Zm,under]) rfl (by simp [YA,ZH,Zm,under]) (LoopI.go (m-1) (by omega) ⟨i+1,_,by omega,hR,rfl,rfl⟩)
       · exfalso;first|(simp at hb;omega)|(simp at hb hlt;omega)
     · have e : i = kids.length := by omega
       subst e
       repeat' first|refine Jz ?_ ?_|refine Jo ?_|intro hb
       · exfalso;simp at hb
       · rw [hR, List.drop_length]
         simp [thL]
 · have e : nm = [115, 104, 107] := by simpa using hb
   have hsk:sk=2:=hp.2 (by simp [e])
   rw [Zap (by rw [e];simp)] at hR
   refine Wp.while (fun m tm H=>∃ (i:Nat),∃ base,i+m=kids.length∧kids.all Xa=(kids.drop i).all Xa∧tm=ovr base [(1,.ptr 0 4 0 0),(38,slV b 4 (Za kids)),(39,.int .i64 (kids.length:Int)),(40,.int .i64 (i:Int))]∧H=⟨[.cells 4 [[.int .i64 k,.str nm,.int .i64 s,slV b 4 (Za kids)]],.cells 4 [[.str sn,.int .i64 sl,.int .i64 sm,.int .i64 sk]]],0,[],0⟩)
    (fun m tm H hI=>Wp.drop ?_) kids.length _ _ ⟨0,_,by omega,by simp,Zi ⟨rfl,rfl,Zh (by rw [Zb]),rfl,trivial⟩,rfl⟩
   obtain ⟨i,base,hi,hall,rfl,rfl⟩:=hI
   by_cases hlt:i<kids.length
   · obtain ⟨t', ht'⟩ : ∃ t', kids[i]? = some t' := ⟨kids[i], by simp⟩
     rw [Q5 ht'] at hall
     obtain ⟨k',nm',s',b',kids'⟩:=t'
     have hj:=Zk ht'
     repeat' first|refine Jk ?_|refine Jl ?_|refine Jx ?_|refine Jt ?_|refine Jb ?_ ?_|refine Jz ?_ ?_|refine Jo ?_|intro hb
     · rw [hR,if_pos ⟨hsk,by rw [hall];simp at hb;simp [Xa,hb]⟩]
     · rw [hR,if_pos ⟨hsk,by rw [hall];simp at hb;simp [Xa,hb]⟩]
     · have hA : Xa (Tm.mk k' nm' s' b' kids') = true := by
         have h1:= ‹(k'==3)=false›
         have h2:= ‹(s' != 1)=false›
         simp at h1 h2
         simp [Xa,h1,h2]
       rw [hA,Bool.true_and] at hall
       exact DropQ.go [(1,.ptr 0 4 0 0),(38,slV b 4 (Za kids)),(39,.int .i64 (kids.length:Int)),(40,.int .i64 ((i+1:Nat):Int))] ⟨rfl,rfl,rfl,Zh (Ze (n:=i+1) (by omega)),trivial⟩
        (by simp [Zm,under]) rfl (by simp [YA,ZH,Zm,under]) (LoopI.go (m-1) (by omega) ⟨i+1,_,by omega,hall,rfl,rfl⟩)
     · exfalso;simp at hb;omega
   · have e : i = kids.length := by omega
     subst e
     repeat' first|refine Jl ?_|refine Jz ?_ ?_|refine Jo ?_|intro hb
     · exfalso;simp at hb
     have hall:kids.all Xa=true:=by rw [hall,List.drop_length];rfl
     rw [if_neg (by simp [hall])] at hR
     refine Wp.while (fun m tm H=>∃ (i:Nat),∃ base,i+m=kids.length∧R=thL (kids.drop i)∧tm=ovr base [(62,slV b 4 (Za kids)),(63,.int .i64 (kids.length:Int)),(64,.int .i64 (i:Int))]∧H=⟨[.cells 4 [[.int .i64 k,.str nm,.int .i64 s,slV b 4 (Za kids)]],.cells 4 [[.str sn,.int .i64 sl,.int .i64 sm,.int .i64 sk]]],0,[],0⟩)
      (fun m tm H hI=>Wp.drop ?_) kids.length _ _ ⟨0,_,by omega,by simpa using hR,Zi ⟨rfl,Zh (by rw [Zb]),rfl,trivial⟩,rfl⟩
     clear hR
     obtain ⟨i,base,hi,hR,rfl,rfl⟩:=hI
     by_cases hlt:i<kids.length
     · obtain ⟨t', ht'⟩ : ∃ t', kids[i]? = some t' := ⟨kids[i], by simp⟩
       have hm:t'∈kids:=List.mem_of_getElem? ht'
       have hc:=ih t' hm
       obtain ⟨e1,he1⟩:∃ e1,t'.th=e1:=⟨_,rfl⟩
       rw [he1] at hc
       rw [UO ht' he1] at hR
       obtain ⟨k',nm',s',b',kids'⟩:=t'
       have hj:=Zk ht'
       repeat' first|refine Jc (hc _) ?_|refine Jx ?_|refine Jb ?_ ?_|refine Jz ?_ ?_|refine Jo ?_|intro hb
       · rw [hR,if_pos (by simpa using hb)]
       · rw [if_neg (by simpa using hb)] at hR
         exact DropQ.go [(62,slV b 4 (Za kids)),(63,.int .i64 (kids.length:Int)),(64,.int .i64 ((i+1:Nat):Int))] ⟨rfl,rfl,Zh (Ze (n:=i+1) (by omega)),trivial⟩
          (by simp [Zm,under]) rfl (by simp [YA,ZH,Zm,under]) (LoopI.go (m-1) (by omega) ⟨i+1,_,by omega,hR,rfl,rfl⟩)
       · exfalso;first|(simp at hb;omega)|(simp at hb hlt;omega)
     · have e : i = kids.length := by omega
       subst e
       repeat' first|refine Jz ?_ ?_|refine Jo ?_|intro hb
       · exfalso;simp at hb
       · rw [hR, List.drop_length]
         simp [thL]
 · have e : nm = [110, 101, 119] := by simpa using hb
   subst e
   obtain ⟨rfl,rfl,rfl,rfl⟩:sn= [110,101,119]∧sl=1∧sm=8∧sk=2:=by
    have:Qd [110,101,119]=⟨[110,101,119],1,8,2⟩:=rfl
    rw [this] at sy
    cases sy
    exact ⟨rfl,rfl,rfl,rfl⟩
   obtain ⟨a,r,rfl⟩:∃ a r,kids=a::r:=by
    cases kids with
    | nil =>
      exfalso
      have h1:= ‹decide (((Za []).length:Int)<_)=false›
      rw [Zb] at h1
      simp at h1
    | cons a r=>exact ⟨a,r,rfl⟩
   obtain ⟨ka,na,sa,ba,la⟩:=a
   have hj:=Zo9 (b:=b) (show (Tm.mk ka na sa ba la::r)[0]? = some (Tm.mk ka na sa ba la) from rfl)
   repeat' first|refine JJ ?_|refine Jl ?_|refine Jb ?_ ?_|refine Jo ?_|intro hb
   · rw [hR,if_pos ⟨rfl,by simp at hb;simp [QK,hb]⟩]
   · rw [if_neg (by simp at hb; simp [QK, hb])] at hR
     clear hj
     refine Wp.while (fun m tm H=>∃ (i:Nat),∃ base,i+m=(Tm.mk ka na sa ba la::r).length∧R=thL ((Tm.mk ka na sa ba la::r).drop i)∧tm=ovr base [(62,slV b 4 (Za (Tm.mk ka na sa ba la::r))),(63,.int .i64 ((Tm.mk ka na sa ba la::r).length:Int)),(64,.int .i64 (i:Int))]∧H=⟨[.cells 4 [[.int .i64 k,.str [110,101,119],.int .i64 s,slV b 4 (Za (Tm.mk ka na sa ba la::r))]],.cells 4 [[.str [110,101,119],.int .i64 1,.int .i64 8,.int .i64 2]]],0,[],0⟩)
      (fun m tm H hI=>Wp.drop ?_) (Tm.mk ka na sa ba la::r).length _ _ ⟨0,_,by omega,by simpa using hR,Zi ⟨rfl,Zh (by rw [Zb]),rfl,trivial⟩,rfl⟩
     clear hR
     obtain ⟨i,base,hi,hR,rfl,rfl⟩:=hI
     by_cases hlt:i<(Tm.mk ka na sa ba la::r).length
     · obtain ⟨t', ht'⟩ : ∃ t', (Tm.mk ka na sa ba la :: r)[i]? = some t' := ⟨(Tm.mk ka na sa ba la :: r)[i], by simp⟩
       have hm:t'∈(Tm.mk ka na sa ba la::r):=List.mem_of_getElem? ht'
       have hc:=ih t' hm
       obtain ⟨e1,he1⟩:∃ e1,t'.th=e1:=⟨_,rfl⟩
       rw [he1] at hc
       rw [UO ht' he1] at hR
       obtain ⟨k',nm',s',b',kids'⟩:=t'
       have hj:=Zk ht'
       repeat' first|refine Jc (hc _) ?_|refine Jx ?_|refine Jb ?_ ?_|refine Jz ?_ ?_|refine Jo ?_|intro hb
       · rw [hR,if_pos (by simpa using hb)]
       · rw [if_neg (by simpa using hb)] at hR
         exact DropQ.go [(62,slV b 4 (Za (Tm.mk ka na sa ba la::r))),(63,.int .i64 ((Tm.mk ka na sa ba la::r).length:Int)),(64,.int .i64 ((i+1:Nat):Int))] ⟨rfl,rfl,Zh (Ze (n:=i+1) (by omega)),trivial⟩
          (by simp [Zm,under]) rfl (by simp [YA,ZH,Zm,under]) (LoopI.go (m-1) (by omega) ⟨i+1,_,by omega,hR,rfl,rfl⟩)
       · exfalso;first|(simp at hb;omega)|(simp at hb hlt;omega)
     · have e : i = (Tm.mk ka na sa ba la :: r).length := by omega
       subst e
       repeat' first|refine Jz ?_ ?_|refine Jo ?_|intro hb
       · exfalso;simp at hb
       · rw [hR, List.drop_length]
         simp [thL]
 · have hR : R = thL kids := by
     rw [hR,if_neg]
     rintro ⟨h1,h2⟩
     rcases hp.1 h1 with e|e|e<;>(subst e;simp at *)
   refine Wp.while (fun m tm H=>∃ (i:Nat),∃ base,i+m=kids.length∧R=thL (kids.drop i)∧tm=ovr base [(62,slV b 4 (Za kids)),(63,.int .i64 (kids.length:Int)),(64,.int .i64 (i:Int))]∧H=⟨[.cells 4 [[.int .i64 k,.str nm,.int .i64 s,slV b 4 (Za kids)]],.cells 4 [[.str sn,.int .i64 sl,.int .i64 sm,.int .i64 sk]]],0,[],0⟩)
    (fun m tm H hI=>Wp.drop ?_) kids.length _ _ ⟨0,_,by omega,by simpa using hR,Zi ⟨rfl,Zh (by rw [Zb]),rfl,trivial⟩,rfl⟩
   clear hR
   obtain ⟨i,base,hi,hR,rfl,rfl⟩:=hI
   by_cases hlt:i<kids.length
   · obtain ⟨t', ht'⟩ : ∃ t', kids[i]? = some t' := ⟨kids[i], by simp⟩
     have hm:t'∈kids:=List.mem_of_getElem? ht'
     have hc:=ih t' hm
     obtain ⟨e1,he1⟩:∃ e1,t'.th=e1:=⟨_,rfl⟩
     rw [he1] at hc
     rw [UO ht' he1] at hR
     obtain ⟨k',nm',s',b',kids'⟩:=t'
     have hj:=Zk ht'
     repeat' first|refine Jc (hc _) ?_|refine Jx ?_|refine Jb ?_ ?_|refine Jz ?_ ?_|refine Jo ?_|intro hb
     · rw [hR,if_pos (by simpa using hb)]
     · rw [if_neg (by simpa using hb)] at hR
       exact DropQ.go [(62,slV b 4 (Za kids)),(63,.int .i64 (kids.length:Int)),(64,.int .i64 ((i+1:Nat):Int))] ⟨rfl,rfl,Zh (Ze (n:=i+1) (by omega)),trivial⟩
        (by simp [Zm,under]) rfl (by simp [YA,ZH,Zm,under]) (LoopI.go (m-1) (by omega) ⟨i+1,_,by omega,hR,rfl,rfl⟩)
     · exfalso;first|(simp at hb;omega)|(simp at hb hlt;omega)
   · have e : i = kids.length := by omega
     subst e
     repeat' first|refine Jz ?_ ?_|refine Jo ?_|intro hb
     · exfalso;simp at hb
     · rw [hR, List.drop_length]
       simp [thL]
theorem Zsc (ht:t.Ok) (hsz:t.size<4611686018427387000):∀ H,CallOk E0 Tryz.prog 148 [.agg t.cells] H (.int .i64 (if t.valid≠0 then t.valid else t.th)) H:=by
 have h1:=c74 ht hsz
 have h2:=Zvd ht
 generalize t.valid=e at h1
 generalize t.th=e2 at h2
 obtain ⟨k,nm,s,b,kids⟩:=t
 refine Jw tOk fe148.ok rfl ?_
 repeat' first|refine Jc (h1 _) ?_|refine Jc (h2 _) ?_|refine Jb ?_ ?_|refine Jo ?_|intro hb
 · rw [if_pos (by simpa using hb)]
 · rw [if_neg (by simpa using hb)]
theorem ZiM {e:Bool} (h:l[i]? = some t) (he:t.fre=e):ZgW (l.drop i)=(e&&ZgW (l.drop (i+1))):=by
 rw [ZM h];simp only [ZgW,he]
theorem Ztk (nm:List UInt8):∀ H,CallOk E0 Tryz.prog 150 [.str nm] H (.bool (Znv nm)) H:=by
 have hc:=Zr1 nm
 unfold Znv Zoj
 generalize Qd nm=y at hc
 obtain ⟨sn,sl,sm,sk⟩:=y
 refine Jw tOk fe150.ok rfl ?_
 repeat' first|refine Jc (hc _) ?_|refine Jt ?_|refine Jb ?_ ?_|refine Jo ?_|intro hb
 all_goals (refine ifq ?_;clear hc;simp_all)
theorem ZtW (ht:t.Ok):∀ H,CallOk E0 Tryz.prog 149 [.agg t.cells,.fn 150 []] H (.bool t.fre) H:=by
 induction ht with
 | @mk k nm s b kids hk hs hn hl hok ih=>
 have hc:=Ztk nm
 simp only [Tm.fre]
 generalize Znv nm=e at hc
 refine Jw tOk fe149.ok rfl ?_
 repeat' first|refine Jk ?_|refine Jc (hc _) ?_|refine Jl ?_|refine Jt ?_|refine Jb ?_ ?_|refine Jo ?_|intro hb
 · have h1 := ‹(k == 3) = true›
   simp at h1 hb
   simp [h1,hb]
 all_goals
  have he:(if k=3 then e else true)=true:=by
   first
    | (have h1:= ‹(k==3)=true›;simp at h1 hb;simp [h1,hb];done)
    | (simp at hb;simp [hb];done)
  rw [he,Bool.true_and]
  clear hc
  unfold maxLen at hl
  refine Wp.while (fun m tm H=>∃ (i:Nat),∃ base,i+m=kids.length∧ZgW kids=ZgW (kids.drop i)∧tm=ovr base [(1,.fn 150 []),(18,slV b 4 (Za kids)),(19,.int .i64 (kids.length:Int)),(20,.int .i64 (i:Int))]∧H=⟨[.cells 4 [[.int .i64 k,.str nm,.int .i64 s,slV b 4 (Za kids)]]],0,[],0⟩)
   (fun m tm H hI=>Wp.drop ?_) kids.length _ _ ⟨0,_,by omega,by simp,Zi ⟨rfl,rfl,Zh (by rw [Zb]),rfl,trivial⟩,rfl⟩
  obtain ⟨i,base,hi,hgo,rfl,rfl⟩:=hI
  rw [hgo]
  by_cases hlt:i<kids.length
  · obtain ⟨t', ht'⟩ : ∃ t', kids[i]? = some t' := ⟨kids[i], by simp⟩
    have hm:t'∈kids:=List.mem_of_getElem? ht'
    have hc:=ih t' hm
    obtain ⟨e1,he1⟩:∃ e1,t'.fre=e1:=⟨_,rfl⟩
    rw [he1] at hc
    rw [ZiM ht' he1]
    obtain ⟨k',nm',s',b',kids'⟩:=t'
    have hj:=Zk ht'
    repeat' first|refine Jc (hc _) ?_|refine Jx ?_|refine Jt ?_|refine Jb ?_ ?_|refine Jz ?_ ?_|refine Jo ?_|intro hb
    · simp at hb;simp [hb]
    · have h1 : e1 = true := by simpa using hb
      rw [h1,Bool.true_and]
      exact DropQ.go [(1,.fn 150 []),(18,slV b 4 (Za kids)),(19,.int .i64 (kids.length:Int)),(20,.int .i64 ((i+1:Nat):Int))] ⟨rfl,rfl,rfl,Zh (Ze (n:=i+1) (by omega)),trivial⟩
       (by simp [Zm,under,ZH]) rfl (by simp [YA,ZH,Zm,under]) (LoopI.go (m-1) (by omega) ⟨i+1,_,by omega,rfl,rfl,rfl⟩)
    · exfalso;simp at hb;omega
  · have e : i = kids.length := by omega
    subst e
    repeat' first|refine Jt ?_|refine Jz ?_ ?_|refine Jo ?_|intro hb
    · exfalso;simp at hb
    · simp [ZgW]
theorem Zso (ht:t.Ok) (hsz:t.size<4611686018427387000):∀ H,CallOk E0 Tryz.prog 102 [.agg t.cells] H (.bool (decide (t.valid=0∧t.th=0)&&t.fre)) H:=by
 have h1:=Zsc ht hsz
 have h2:=ZtW ht
 generalize t.fre=f at h2
 have he:decide (t.valid=0∧t.th=0)=decide ((if t.valid≠0 then t.valid else t.th)=0):=by
  congr 1;apply propext
  split<;>omega
 rw [he]
 clear he
 generalize (if t.valid≠0 then t.valid else t.th)=e at h1
 obtain ⟨k,nm,s,b,kids⟩:=t
 refine Jw tOk fe102.ok rfl ?_
 repeat' first|refine Jk ?_|refine Jc (h1 _) ?_|refine Jc (h2 _) ?_|refine Jt ?_|refine Jb ?_ ?_|refine Jo ?_|intro hb
 all_goals (refine ifq ?_;clear h1 h2;simp_all)
end Go.Vm.Seat
