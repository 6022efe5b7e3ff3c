/-
  The symbols of the theory, and the terms that it allows: the program's text.
-/
import Derived.Test.YtkaocdljkonfaaaGreatDoorQTv3
set_option maxHeartbeats 64000000
set_option maxRecDepth 100000
namespace Go.Vm.Seat
variable {nm:List UInt8} {kids l:List Tm} {i:Nat} {t:Tm}
open Go.Proofs
theorem Zuc:∀ H,CallOk E0 Tryz.prog 184 [] H (slV true 4 (Zbz ZbF)) H:=by
 have e:slV true 4 (Zbz ZbF)= .sl .none 4 (Zbz ZbF):=Zw _ _ _ _
 rw [e]
 exact Xi (x:=⟨184,[],.sl .none 4 (Zbz ZbF)⟩) tOk follows fOk zOk (fuel:=100) (k:=20) (by kernel_rfl)
theorem Qb {l:List Sym} {s:Sym} (h:l[i]? = some s):Vb nm (l.drop i)=if (s.name==nm)=true then some s else Vb nm (l.drop (i+1)):=by
 rw [ZN h];simp only [Vb]
theorem Zqf (nm:List UInt8):∀ H,CallOk E0 Tryz.prog 151 [.str nm] H (.agg (Qt nm).cells) H:=by
 have hc:=Zuc
 obtain ⟨l,hl⟩:∃ l,l=ZbF:=⟨_,rfl⟩
 have hlen:l.length=21:=by rw [hl];rfl
 unfold Qt
 rw [← hl] at hc ⊢
 refine Jw tOk fe151.ok rfl ?_
 repeat' first|refine Jc (hc _) ?_|refine Jl ?_|refine Jo ?_|fail
 refine Wp.while (fun m tm H=>∃ (i:Nat),∃ base,i+m=l.length∧Vb nm l=Vb nm (l.drop i)∧tm=ovr base [(0,.str nm),(2,.ptr 0 4 0 0),(5,slV true 4 (Zbz l)),(6,.int .i64 (l.length:Int)),(7,.int .i64 (i:Int))]∧H=⟨[.cells 4 [[.str [],.int .i64 0,.int .i64 0,.int .i64 0]]],0,[],0⟩)
  (fun m tm H hI=>Wp.drop ?_) l.length _ _ ⟨0,_,by omega,by simp,Zh ⟨rfl,rfl,rfl,Zi (by rw [Un]),rfl,trivial⟩,rfl⟩
 clear hc hl
 obtain ⟨i,base,hi,hgo,rfl,rfl⟩:=hI
 rw [hgo]
 by_cases hlt:i<l.length
 · obtain ⟨s, hs⟩ : ∃ s, l[i]? = some s := ⟨l[i], by simp⟩
   rw [Qb hs]
   obtain ⟨sn,sl,sm,sk⟩:=s
   have hj:(Zbz l)[i]? = some [.str sn,.int .i64 sl,.int .i64 sm,.int .i64 sk]:=ZbW hs
   repeat' first|refine Jx ?_|refine Jb ?_ ?_|refine Jz ?_ ?_|refine Jo ?_|intro hb
   · rw [if_pos (by simpa using hb)]
     rfl
   · rw [if_neg (by simpa using hb)]
     exact DropQ.go [(0,.str nm),(2,.ptr 0 4 0 0),(5,slV true 4 (Zbz l)),(6,.int .i64 (l.length:Int)),(7,.int .i64 ((i+1:Nat):Int))] ⟨rfl,rfl,rfl,rfl,Zi (Zf (n:=i+1) (by omega)),trivial⟩
      (by simp [Zp,under]) rfl (by simp [YF,ZP,under]) (LoopI.go (m-1) (by omega) ⟨i+1,_,by omega,rfl,rfl,rfl⟩)
   · exfalso;simp at hb;omega
 · have e : i = l.length := by omega
   subst e
   repeat' first|refine Jz ?_ ?_|refine Jo ?_|intro hb
   · exfalso;simp at hb
   · rw [List.drop_length]
     rfl
theorem Ur {e:Int} (h:l[i]? = some t) (he:t.th=e):thL (l.drop i)=if e≠0 then e else thL (l.drop (i+1)):=by
 rw [ZN h];simp only [thL,he]
def Y4 (t:Tm):Bool:=match t with| .mk k _ s _ _=> !(decide (k=3))&&decide (s=1)
theorem QV (h:nm≠ [110,101,119]):ZbU nm kids=kids.all Y4:=by
 unfold ZbU;rw [if_neg h];rfl
theorem Znu {b:Bool} (h:kids[i]? = some t):Zo E0 22 (slV b 4 (Za kids)) (.int .i64 (i:Int))=some (.fptr t.cells 0):=by
 refine Ws (E:=E0) (t:=22) (e:=24) rfl rfl rfl rfl b ?_
 obtain ⟨k,nm,s,b',kids'⟩:=t
 exact Zl h
theorem QH {p:Tm→Bool} (h:l[i]? = some t):(l.drop i).all p=(p t&&(l.drop (i+1)).all p):=by
 rw [ZN h];rfl
theorem Zrk (ht:t.Ok):∀ H,CallOk E0 Tryz.prog 183 [.agg t.cells] H (.int .i64 t.th) H:=by
 induction ht with
 | @mk k nm s b kids hk hs hn hl hok ih=>
 have hc:=Zqf nm
 obtain ⟨R,hR⟩:∃ R,R=(Tm.mk k nm s b kids).th:=⟨_,rfl⟩
 rw [← hR]
 simp only [Tm.th] at hR
 have hp:=Zh6 (nm:=nm)
 obtain ⟨sn,sl,sm,sk,sy⟩:∃ sn sl sm sk,Qt nm=⟨sn,sl,sm,sk⟩:=⟨_,_,_,_,rfl⟩
 rw [sy] at hc hR hp
 simp only [] at hR hp
 refine Jw tOk fe183.ok rfl ?_
 repeat' first|refine Jk ?_|refine Jc (hc _) ?_|refine Jl ?_|refine Jt ?_|refine Jb ?_ ?_|refine Jo ?_|intro hb
 all_goals first
  | (rw [hR,if_pos (by simpa using hb)];done)
  | (rw [hR,if_neg (by simpa using ‹(k != 3)=false›),if_pos (by simpa using hb)];done)
  | (rw [hR,if_neg (by simpa using ‹(k != 3)=false›),if_neg (by simpa using ‹((Sym.mk sn sl sm sk).kind==0)=false›),if_pos (by rw [Zb] at hb;simp at hb;omega)];done)
  | skip
 all_goals
  rw [if_neg (by simpa using ‹(k != 3)=false›),if_neg (by simpa using ‹((Sym.mk sn sl sm sk).kind==0)=false›),if_neg (by
   have h1:= ‹decide (((Za kids).length:Int)<(Sym.mk sn sl sm sk).least)=false›
   have h2:= ‹decide ((Sym.mk sn sl sm sk).most<((Za kids).length:Int))=false›
   rw [Zb] at h1 h2
   simp at h1 h2
   omega)] at hR
  clear hc
  unfold maxLen at hl
 · have e : nm = [115, 107] := by simpa using hb
   have hsk:sk=2:=hp.2 (by simp [e])
   rw [QV (by rw [e];simp)] at hR
   refine Wp.while (fun m tm H=>∃ (i:Nat),∃ base,i+m=kids.length∧kids.all Y4=(kids.drop i).all Y4∧tm=ovr base [(1,.ptr 0 4 0 0),(38,slV b 4 (Za kids)),(39,.int .i64 (kids.length:Int)),(40,.int .i64 (i:Int))]∧H=⟨[.cells 4 [[.int .i64 k,.str nm,.int .i64 s,slV b 4 (Za kids)]],.cells 4 [[.str sn,.int .i64 sl,.int .i64 sm,.int .i64 sk]]],0,[],0⟩)
    (fun m tm H hI=>Wp.drop ?_) kids.length _ _ ⟨0,_,by omega,by simp,Zh ⟨rfl,rfl,Zi (by rw [Zb]),rfl,trivial⟩,rfl⟩
   obtain ⟨i,base,hi,hall,rfl,rfl⟩:=hI
   by_cases hlt:i<kids.length
   · obtain ⟨t', ht'⟩ : ∃ t', kids[i]? = some t' := ⟨kids[i], by simp⟩
     rw [QH ht'] at hall
     obtain ⟨k',nm',s',b',kids'⟩:=t'
     have hj:=Zl ht'
     repeat' first|refine Jk ?_|refine Jl ?_|refine Jx ?_|refine Jt ?_|refine Jb ?_ ?_|refine Jz ?_ ?_|refine Jo ?_|intro hb
     · rw [hR,if_pos ⟨hsk,by rw [hall];simp at hb;simp [Y4,hb]⟩]
     · rw [hR,if_pos ⟨hsk,by rw [hall];simp at hb;simp [Y4,hb]⟩]
     · have hA : Y4 (Tm.mk k' nm' s' b' kids') = true := by
         have h1:= ‹(k'==3)=false›
         have h2:= ‹(s' != 1)=false›
         simp at h1 h2
         simp [Y4,h1,h2]
       rw [hA,Bool.true_and] at hall
       exact DropQ.go [(1,.ptr 0 4 0 0),(38,slV b 4 (Za kids)),(39,.int .i64 (kids.length:Int)),(40,.int .i64 ((i+1:Nat):Int))] ⟨rfl,rfl,rfl,Zi (Zf (n:=i+1) (by omega)),trivial⟩
        (by simp [Zp,under]) rfl (by simp [YF,ZP,Zp,under]) (LoopI.go (m-1) (by omega) ⟨i+1,_,by omega,hall,rfl,rfl⟩)
     · exfalso;simp at hb;omega
   · have e : i = kids.length := by omega
     subst e
     repeat' first|refine Jl ?_|refine Jz ?_ ?_|refine Jo ?_|intro hb
     · exfalso;simp at hb
     have hall:kids.all Y4=true:=by rw [hall,List.drop_length];rfl
     rw [if_neg (by simp [hall])] at hR
     refine Wp.while (fun m tm H=>∃ (i:Nat),∃ base,i+m=kids.length∧R=thL (kids.drop i)∧tm=ovr base [(62,slV b 4 (Za kids)),(63,.int .i64 (kids.length:Int)),(64,.int .i64 (i:Int))]∧H=⟨[.cells 4 [[.int .i64 k,.str nm,.int .i64 s,slV b 4 (Za kids)]],.cells 4 [[.str sn,.int .i64 sl,.int .i64 sm,.int .i64 sk]]],0,[],0⟩)
      (fun m tm H hI=>Wp.drop ?_) kids.length _ _ ⟨0,_,by omega,by simpa using hR,Zh ⟨rfl,Zi (by rw [Zb]),rfl,trivial⟩,rfl⟩
     clear hR
     obtain ⟨i,base,hi,hR,rfl,rfl⟩:=hI
     by_cases hlt:i<kids.length
     · obtain ⟨t', ht'⟩ : ∃ t', kids[i]? = some t' := ⟨kids[i], by simp⟩
       have hm:t'∈kids:=List.mem_of_getElem? ht'
       have hc:=ih t' hm
       obtain ⟨e1,he1⟩:∃ e1,t'.th=e1:=⟨_,rfl⟩
       rw [he1] at hc
       rw [Ur ht' he1] at hR
       obtain ⟨k',nm',s',b',kids'⟩:=t'
       have hj:=Zl ht'
       repeat' first|refine Jc (hc _) ?_|refine Jx ?_|refine Jb ?_ ?_|refine Jz ?_ ?_|refine Jo ?_|intro hb
       · rw [hR,if_pos (by simpa using hb)]
       · rw [if_neg (by simpa using hb)] at hR
         exact DropQ.go [(62,slV b 4 (Za kids)),(63,.int .i64 (kids.length:Int)),(64,.int .i64 ((i+1:Nat):Int))] ⟨rfl,rfl,Zi (Zf (n:=i+1) (by omega)),trivial⟩
          (by simp [Zp,under]) rfl (by simp [YF,ZP,Zp,under]) (LoopI.go (m-1) (by omega) ⟨i+1,_,by omega,hR,rfl,rfl⟩)
       · exfalso;first|(simp at hb;omega)|(simp at hb hlt;omega)
     · have e : i = kids.length := by omega
       subst e
       repeat' first|refine Jz ?_ ?_|refine Jo ?_|intro hb
       · exfalso;simp at hb
       · rw [hR, List.drop_length]
         simp [thL]
 · have e : nm = [115, 104, 107] := by simpa using hb
   have hsk:sk=2:=hp.2 (by simp [e])
   rw [QV (by rw [e];simp)] at hR
   refine Wp.while (fun m tm H=>∃ (i:Nat),∃ base,i+m=kids.length∧kids.all Y4=(kids.drop i).all Y4∧tm=ovr base [(1,.ptr 0 4 0 0),(38,slV b 4 (Za kids)),(39,.int .i64 (kids.length:Int)),(40,.int .i64 (i:Int))]∧H=⟨[.cells 4 [[.int .i64 k,.str nm,.int .i64 s,slV b 4 (Za kids)]],.cells 4 [[.str sn,.int .i64 sl,.int .i64 sm,.int .i64 sk]]],0,[],0⟩)
    (fun m tm H hI=>Wp.drop ?_) kids.length _ _ ⟨0,_,by omega,by simp,Zh ⟨rfl,rfl,Zi (by rw [Zb]),rfl,trivial⟩,rfl⟩
   obtain ⟨i,base,hi,hall,rfl,rfl⟩:=hI
   by_cases hlt:i<kids.length
   · obtain ⟨t', ht'⟩ : ∃ t', kids[i]? = some t' := ⟨kids[i], by simp⟩
     rw [QH ht'] at hall
     obtain ⟨k',nm',s',b',kids'⟩:=t'
     have hj:=Zl ht'
     repeat' first|refine Jk ?_|refine Jl ?_|refine Jx ?_|refine Jt ?_|refine Jb ?_ ?_|refine Jz ?_ ?_|refine Jo ?_|intro hb
     · rw [hR,if_pos ⟨hsk,by rw [hall];simp at hb;simp [Y4,hb]⟩]
     · rw [hR,if_pos ⟨hsk,by rw [hall];simp at hb;simp [Y4,hb]⟩]
     · have hA : Y4 (Tm.mk k' nm' s' b' kids') = true := by
         have h1:= ‹(k'==3)=false›
         have h2:= ‹(s' != 1)=false›
         simp at h1 h2
         simp [Y4,h1,h2]
       rw [hA,Bool.true_and] at hall
       exact DropQ.go [(1,.ptr 0 4 0 0),(38,slV b 4 (Za kids)),(39,.int .i64 (kids.length:Int)),(40,.int .i64 ((i+1:Nat):Int))] ⟨rfl,rfl,rfl,Zi (Zf (n:=i+1) (by omega)),trivial⟩
        (by simp [Zp,under]) rfl (by simp [YF,ZP,Zp,under]) (LoopI.go (m-1) (by omega) ⟨i+1,_,by omega,hall,rfl,rfl⟩)
     · exfalso;simp at hb;omega
   · have e : i = kids.length := by omega
     subst e
     repeat' first|refine Jl ?_|refine Jz ?_ ?_|refine Jo ?_|intro hb
     · exfalso;simp at hb
     have hall:kids.all Y4=true:=by rw [hall,List.drop_length];rfl
     rw [if_neg (by simp [hall])] at hR
     refine Wp.while (fun m tm H=>∃ (i:Nat),∃ base,i+m=kids.length∧R=thL (kids.drop i)∧tm=ovr base [(62,slV b 4 (Za kids)),(63,.int .i64 (kids.length:Int)),(64,.int .i64 (i:Int))]∧H=⟨[.cells 4 [[.int .i64 k,.str nm,.int .i64 s,slV b 4 (Za kids)]],.cells 4 [[.str sn,.int .i64 sl,.int .i64 sm,.int .i64 sk]]],0,[],0⟩)
      (fun m tm H hI=>Wp.drop ?_) kids.length _ _ ⟨0,_,by omega,by simpa using hR,Zh ⟨rfl,Zi (by rw [Zb]),rfl,trivial⟩,rfl⟩
     clear hR
     obtain ⟨i,base,hi,hR,rfl,rfl⟩:=hI
     by_cases hlt:i<kids.length
     · obtain ⟨t', ht'⟩ : ∃ t', kids[i]? = some t' := ⟨kids[i], by simp⟩
       have hm:t'∈kids:=List.mem_of_getElem? ht'
       have hc:=ih t' hm
       obtain ⟨e1,he1⟩:∃ e1,t'.th=e1:=⟨_,rfl⟩
       rw [he1] at hc
       rw [Ur ht' he1] at hR
       obtain ⟨k',nm',s',b',kids'⟩:=t'
       have hj:=Zl ht'
       repeat' first|refine Jc (hc _) ?_|refine Jx ?_|refine Jb ?_ ?_|refine Jz ?_ ?_|refine Jo ?_|intro hb
       · rw [hR,if_pos (by simpa using hb)]
       · rw [if_neg (by simpa using hb)] at hR
         exact DropQ.go [(62,slV b 4 (Za kids)),(63,.int .i64 (kids.length:Int)),(64,.int .i64 ((i+1:Nat):Int))] ⟨rfl,rfl,Zi (Zf (n:=i+1) (by omega)),trivial⟩
          (by simp [Zp,under]) rfl (by simp [YF,ZP,Zp,under]) (LoopI.go (m-1) (by omega) ⟨i+1,_,by omega,hR,rfl,rfl⟩)
       · exfalso;first|(simp at hb;omega)|(simp at hb hlt;omega)
     · have e : i = kids.length := by omega
       subst e
       repeat' first|refine Jz ?_ ?_|refine Jo ?_|intro hb
       · exfalso;simp at hb
       · rw [hR, List.drop_length]
         simp [thL]
 · have e : nm = [110, 101, 119] := by simpa using hb
   subst e
   obtain ⟨rfl,rfl,rfl,rfl⟩:sn= [110,101,119]∧sl=1∧sm=8∧sk=2:=by
    have:Qt [110,101,119]=⟨[110,101,119],1,8,2⟩:=rfl
    rw [this] at sy
    cases sy
    exact ⟨rfl,rfl,rfl,rfl⟩
   obtain ⟨a,r,rfl⟩:∃ a r,kids=a::r:=by
    cases kids with
    | nil =>
      exfalso
      have h1:= ‹decide (((Za []).length:Int)<_)=false›
      rw [Zb] at h1
      simp at h1
    | cons a r=>exact ⟨a,r,rfl⟩
   obtain ⟨ka,na,sa,ba,la⟩:=a
   have hj:=Znu (b:=b) (show (Tm.mk ka na sa ba la::r)[0]? = some (Tm.mk ka na sa ba la) from rfl)
   repeat' first|refine JJ ?_|refine Jl ?_|refine Jb ?_ ?_|refine Jo ?_|intro hb
   · rw [hR,if_pos ⟨rfl,by simp at hb;simp [ZbU,hb]⟩]
   · rw [if_neg (by simp at hb; simp [ZbU, hb])] at hR
     clear hj
     refine Wp.while (fun m tm H=>∃ (i:Nat),∃ base,i+m=(Tm.mk ka na sa ba la::r).length∧R=thL ((Tm.mk ka na sa ba la::r).drop i)∧tm=ovr base [(62,slV b 4 (Za (Tm.mk ka na sa ba la::r))),(63,.int .i64 ((Tm.mk ka na sa ba la::r).length:Int)),(64,.int .i64 (i:Int))]∧H=⟨[.cells 4 [[.int .i64 k,.str [110,101,119],.int .i64 s,slV b 4 (Za (Tm.mk ka na sa ba la::r))]],.cells 4 [[.str [110,101,119],.int .i64 1,.int .i64 8,.int .i64 2]]],0,[],0⟩)
      (fun m tm H hI=>Wp.drop ?_) (Tm.mk ka na sa ba la::r).length _ _ ⟨0,_,by omega,by simpa using hR,Zh ⟨rfl,Zi (by rw [Zb]),rfl,trivial⟩,rfl⟩
     clear hR
     obtain ⟨i,base,hi,hR,rfl,rfl⟩:=hI
     by_cases hlt:i<(Tm.mk ka na sa ba la::r).length
     · obtain ⟨t', ht'⟩ : ∃ t', (Tm.mk ka na sa ba la :: r)[i]? = some t' := ⟨(Tm.mk ka na sa ba la :: r)[i], by simp⟩
       have hm:t'∈(Tm.mk ka na sa ba la::r):=List.mem_of_getElem? ht'
       have hc:=ih t' hm
       obtain ⟨e1,he1⟩:∃ e1,t'.th=e1:=⟨_,rfl⟩
       rw [he1] at hc
       rw [Ur ht' he1] at hR
       obtain ⟨k',nm',s',b',kids'⟩:=t'
       have hj:=Zl ht'
       repeat' first|refine Jc (hc _) ?_|refine Jx ?_|refine Jb ?_ ?_|refine Jz ?_ ?_|refine Jo ?_|intro hb
       · rw [hR,if_pos (by simpa using hb)]
       · rw [if_neg (by simpa using hb)] at hR
         exact DropQ.go [(62,slV b 4 (Za (Tm.mk ka na sa ba la::r))),(63,.int .i64 ((Tm.mk ka na sa ba la::r).length:Int)),(64,.int .i64 ((i+1:Nat):Int))] ⟨rfl,rfl,Zi (Zf (n:=i+1) (by omega)),trivial⟩
          (by simp [Zp,under]) rfl (by simp [YF,ZP,Zp,under]) (LoopI.go (m-1) (by omega) ⟨i+1,_,by omega,hR,rfl,rfl⟩)
       · exfalso;first|(simp at hb;omega)|(simp at hb hlt;omega)
     · have e : i = (Tm.mk ka na sa ba la :: r).length := by omega
       subst e
       repeat' first|refine Jz ?_ ?_|refine Jo ?_|intro hb
       · exfalso;simp at hb
       · rw [hR, List.drop_length]
         simp [thL]
 · have hR : R = thL kids := by
     rw [hR,if_neg]
     rintro ⟨h1,h2⟩
     rcases hp.1 h1 with e|e|e<;>(subst e;simp at *)
   refine Wp.while (fun m tm H=>∃ (i:Nat),∃ base,i+m=kids.length∧R=thL (kids.drop i)∧tm=ovr base [(62,slV b 4 (Za kids)),(63,.int .i64 (kids.length:Int)),(64,.int .i64 (i:Int))]∧H=⟨[.cells 4 [[.int .i64 k,.str nm,.int .i64 s,slV b 4 (Za kids)]],.cells 4 [[.str sn,.int .i64 sl,.int .i64 sm,.int .i64 sk]]],0,[],0⟩)
    (fun m tm H hI=>Wp.drop ?_) kids.length _ _ ⟨0,_,by omega,by simpa using hR,Zh ⟨rfl,Zi (by rw [Zb]),rfl,trivial⟩,rfl⟩
   clear hR
   obtain ⟨i,base,hi,hR,rfl,rfl⟩:=hI
   by_cases hlt:i<kids.length
   · obtain ⟨t', ht'⟩ : ∃ t', kids[i]? = some t' := ⟨kids[i], by simp⟩
     have hm:t'∈kids:=List.mem_of_getElem? ht'
     have hc:=ih t' hm
     obtain ⟨e1,he1⟩:∃ e1,t'.th=e1:=⟨_,rfl⟩
     rw [he1] at hc
     rw [Ur ht' he1] at hR
     obtain ⟨k',nm',s',b',kids'⟩:=t'
     have hj:=Zl ht'
     repeat' first|refine Jc (hc _) ?_|refine Jx ?_|refine Jb ?_ ?_|refine Jz ?_ ?_|refine Jo ?_|intro hb
     · rw [hR,if_pos (by simpa using hb)]
     · rw [if_neg (by simpa using hb)] at hR
       exact DropQ.go [(62,slV b 4 (Za kids)),(63,.int .i64 (kids.length:Int)),(64,.int .i64 ((i+1:Nat):Int))] ⟨rfl,rfl,Zi (Zf (n:=i+1) (by omega)),trivial⟩
        (by simp [Zp,under]) rfl (by simp [YF,ZP,Zp,under]) (LoopI.go (m-1) (by omega) ⟨i+1,_,by omega,hR,rfl,rfl⟩)
     · exfalso;first|(simp at hb;omega)|(simp at hb hlt;omega)
   · have e : i = kids.length := by omega
     subst e
     repeat' first|refine Jz ?_ ?_|refine Jo ?_|intro hb
     · exfalso;simp at hb
     · rw [hR, List.drop_length]
       simp [thL]
theorem Zqo (ht:t.Ok) (hsz:t.size<4611686018427387000):∀ H,CallOk E0 Tryz.prog 148 [.agg t.cells] H (.int .i64 (if t.valid≠0 then t.valid else t.th)) H:=by
 have h1:=c74 ht hsz
 have h2:=Zrk ht
 generalize t.valid=e at h1
 generalize t.th=e2 at h2
 obtain ⟨k,nm,s,b,kids⟩:=t
 refine Jw tOk fe148.ok rfl ?_
 repeat' first|refine Jc (h1 _) ?_|refine Jc (h2 _) ?_|refine Jb ?_ ?_|refine Jo ?_|intro hb
 · rw [if_pos (by simpa using hb)]
 · rw [if_neg (by simpa using hb)]
theorem Zhj {e:Bool} (h:l[i]? = some t) (he:t.fre=e):Ziz (l.drop i)=(e&&Ziz (l.drop (i+1))):=by
 rw [ZN h];simp only [Ziz,he]
theorem Zri (nm:List UInt8):∀ H,CallOk E0 Tryz.prog 150 [.str nm] H (.bool (ZlU nm)) H:=by
 have hc:=Zqf nm
 unfold ZlU ZmI
 generalize Qt nm=y at hc
 obtain ⟨sn,sl,sm,sk⟩:=y
 refine Jw tOk fe150.ok rfl ?_
 repeat' first|refine Jc (hc _) ?_|refine Jt ?_|refine Jb ?_ ?_|refine Jo ?_|intro hb
 all_goals (refine ifq ?_;clear hc;simp_all)
theorem Zsu (ht:t.Ok):∀ H,CallOk E0 Tryz.prog 149 [.agg t.cells,.fn 150 []] H (.bool t.fre) H:=by
 induction ht with
 | @mk k nm s b kids hk hs hn hl hok ih=>
 have hc:=Zri nm
 simp only [Tm.fre]
 generalize ZlU nm=e at hc
 refine Jw tOk fe149.ok rfl ?_
 repeat' first|refine Jk ?_|refine Jc (hc _) ?_|refine Jl ?_|refine Jt ?_|refine Jb ?_ ?_|refine Jo ?_|intro hb
 · have h1 := ‹(k == 3) = true›
   simp at h1 hb
   simp [h1,hb]
 all_goals
  have he:(if k=3 then e else true)=true:=by
   first
    | (have h1:= ‹(k==3)=true›;simp at h1 hb;simp [h1,hb];done)
    | (simp at hb;simp [hb];done)
  rw [he,Bool.true_and]
  clear hc
  unfold maxLen at hl
  refine Wp.while (fun m tm H=>∃ (i:Nat),∃ base,i+m=kids.length∧Ziz kids=Ziz (kids.drop i)∧tm=ovr base [(1,.fn 150 []),(18,slV b 4 (Za kids)),(19,.int .i64 (kids.length:Int)),(20,.int .i64 (i:Int))]∧H=⟨[.cells 4 [[.int .i64 k,.str nm,.int .i64 s,slV b 4 (Za kids)]]],0,[],0⟩)
   (fun m tm H hI=>Wp.drop ?_) kids.length _ _ ⟨0,_,by omega,by simp,Zh ⟨rfl,rfl,Zi (by rw [Zb]),rfl,trivial⟩,rfl⟩
  obtain ⟨i,base,hi,hgo,rfl,rfl⟩:=hI
  rw [hgo]
  by_cases hlt:i<kids.length
  · obtain ⟨t', ht'⟩ : ∃ t', kids[i]? = some t' := ⟨kids[i], by simp⟩
    have hm:t'∈kids:=List.mem_of_getElem? ht'
    have hc:=ih t' hm
    obtain ⟨e1,he1⟩:∃ e1,t'.fre=e1:=⟨_,rfl⟩
    rw [he1] at hc
    rw [Zhj ht' he1]
    obtain ⟨k',nm',s',b',kids'⟩:=t'
    have hj:=Zl ht'
    repeat' first|refine Jc (hc _) ?_|refine Jx ?_|refine Jt ?_|refine Jb ?_ ?_|refine Jz ?_ ?_|refine Jo ?_|intro hb
    · simp at hb;simp [hb]
    · have h1 : e1 = true := by simpa using hb
      rw [h1,Bool.true_and]
      exact DropQ.go [(1,.fn 150 []),(18,slV b 4 (Za kids)),(19,.int .i64 (kids.length:Int)),(20,.int .i64 ((i+1:Nat):Int))] ⟨rfl,rfl,rfl,Zi (Zf (n:=i+1) (by omega)),trivial⟩
       (by simp [Zp,under,ZP]) rfl (by simp [YF,ZP,Zp,under]) (LoopI.go (m-1) (by omega) ⟨i+1,_,by omega,rfl,rfl,rfl⟩)
    · exfalso;simp at hb;omega
  · have e : i = kids.length := by omega
    subst e
    repeat' first|refine Jt ?_|refine Jz ?_ ?_|refine Jo ?_|intro hb
    · exfalso;simp at hb
    · simp [Ziz]
theorem ZtQ (ht:t.Ok) (hsz:t.size<4611686018427387000):∀ H,CallOk E0 Tryz.prog 102 [.agg t.cells] H (.bool (decide (t.valid=0∧t.th=0)&&t.fre)) H:=by
 have h1:=Zqo ht hsz
 have h2:=Zsu ht
 generalize t.fre=f at h2
 have he:decide (t.valid=0∧t.th=0)=decide ((if t.valid≠0 then t.valid else t.th)=0):=by
  congr 1;apply propext
  split<;>omega
 rw [he]
 clear he
 generalize (if t.valid≠0 then t.valid else t.th)=e at h1
 obtain ⟨k,nm,s,b,kids⟩:=t
 refine Jw tOk fe102.ok rfl ?_
 repeat' first|refine Jk ?_|refine Jc (h1 _) ?_|refine Jc (h2 _) ?_|refine Jt ?_|refine Jb ?_ ?_|refine Jo ?_|intro hb
 all_goals (refine ifq ?_;clear h1 h2;simp_all)
end Go.Vm.Seat
