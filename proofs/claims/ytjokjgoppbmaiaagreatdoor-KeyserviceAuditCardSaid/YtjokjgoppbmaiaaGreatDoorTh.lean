/-
  The symbols of the theory, and the terms that it allows: the program's text.
-/
import Derived.Test.YtjokjgoppbmaiaaGreatDoorTv3
set_option maxHeartbeats 64000000
set_option maxRecDepth 100000
namespace Go.Vm.Seat
open Go.Proofs
theorem c227:∀ H,CallOk E0 Tryz.prog 227 [] H (slV true 4 (symC syms)) H:=by
 have e:slV true 4 (symC syms)= .sl .none 4 (symC syms):=slV_cons _ _ _ _
 rw [e]
 exact okFact_ok (x:=⟨227,[],.sl .none 4 (symC syms)⟩) tOk follows fOk zOk (fuel:=100) (k:=20) (by kernel_rfl)
theorem findS_drop {nm:List UInt8} {l:List Sym} {i:Nat} {s:Sym} (h:l[i]? = some s):findS nm (l.drop i)=if (s.name == nm)=true then some s else findS nm (l.drop (i+1)):=by
 rw [drop_cons h];simp only [findS]
theorem c169 (nm:List UInt8):∀ H,CallOk E0 Tryz.prog 169 [.str nm] H (.agg (symF nm).cells) H:=by
 have hc:=c227
 obtain ⟨l,hl⟩:∃ l,l=syms:=⟨_,rfl⟩
 have hlen:l.length=21:=by rw [hl];rfl
 unfold symF
 rw [← hl] at hc ⊢
 refine κw tOk fe169.ok rfl ?_
 repeat' first | refine κn ?_ | refine κc (hc _) ?_ | refine κl ?_ | refine κg ?_ | refine κa ?_ | fail
 refine Wp.while (fun m tm H=>∃ (i:Nat),∃ base,i+m=l.length∧findS nm l=findS nm (l.drop i)∧tm=ovr base [(0,.str nm),(2,.ptr 0 4 0 0),(5,slV true 4 (symC l)),(6,.int .i64 (l.length:Int)),(7,.int .i64 (i:Int))]∧H=⟨[.cells 4 [[.str [],.int .i64 0,.int .i64 0,.int .i64 0]]],0,[],0⟩)
  (fun m tm H hI=>Wp.drop ?_) l.length _ _ ⟨0,_,by omega,by simp,ovr_mk ⟨rfl,rfl,rfl,int_eq (by rw [symC_len]),rfl,trivial⟩,rfl⟩
 clear hc hl
 obtain ⟨i,base,hi,hgo,rfl,rfl⟩:=hI
 rw [hgo]
 by_cases hlt:i < l.length
 · obtain ⟨s, hs⟩ : ∃ s, l[i]? = some s := ⟨l[i], by simp⟩
   rw [findS_drop hs]
   obtain ⟨sn,sl,sm,sk⟩:=s
   have hj:(symC l)[i]? = some [.str sn,.int .i64 sl,.int .i64 sm,.int .i64 sk]:=symC_get hs
   repeat' first | refine κn ?_ | refine κx ?_ | refine κb ?_ ?_ | refine κz ?_ ?_ | refine κg ?_ | refine κa ?_ | refine κf ?_ | intro hb
   · rw [if_pos (by simpa using hb)]
     rfl
   · rw [if_neg (by simpa using hb)]
     exact DropQ.go [(0,.str nm),(2,.ptr 0 4 0 0),(5,slV true 4 (symC l)),(6,.int .i64 (l.length:Int)),(7,.int .i64 ((i+1:Nat):Int))] ⟨rfl,rfl,rfl,rfl,int_eq (wrap_nat (n:=i+1) (by omega)),trivial⟩
      (by simp [under_slV,under]) rfl (by simp [boxU,underL,under]) (LoopI.go (m - 1) (by omega) ⟨i+1,_,by omega,rfl,rfl,rfl⟩)
   · exfalso;simp at hb;omega
 · have e : i = l.length := by omega
   subst e
   repeat' first | refine κn ?_ | refine κz ?_ ?_ | refine κg ?_ | refine κa ?_ | refine κf ?_ | intro hb
   · exfalso;simp at hb
   · rw [List.drop_length]
     rfl
theorem thL_drop {l:List Tm} {i:Nat} {t:Tm} {e:Int} (h:l[i]? = some t) (he:t.th=e):thL (l.drop i)=if e≠0 then e else thL (l.drop (i+1)):=by
 rw [drop_cons h];simp only [thL,he]
def agentB (t:Tm):Bool:=match t with | .mk k _ s _ _=> !(decide (k=3)) && decide (s=1)
theorem privF_all {nm:List UInt8} {kids:List Tm} (h:nm≠ [110,101,119]):privF nm kids=kids.all agentB:=by
 unfold privF;rw [if_neg h];rfl
theorem idxT {b:Bool} {kids:List Tm} {i:Nat} {t:Tm} (h:kids[i]? = some t):aIndexAddr E0 22 (slV b 4 (cellsL kids)) (.int .i64 (i:Int))=some (.fptr t.cells 0):=by
 refine aIndexAddr_slV (E:=E0) (t:=22) (e:=24) rfl rfl rfl rfl b ?_
 obtain ⟨k,nm,s,b',kids'⟩:=t
 exact cellsL_get h
theorem all_drop {l:List Tm} {i:Nat} {t:Tm} {p:Tm→Bool} (h:l[i]? = some t):(l.drop i).all p=(p t && (l.drop (i+1)).all p):=by
 rw [drop_cons h];rfl
theorem c184 {t:Tm} (ht:t.Ok):∀ H,CallOk E0 Tryz.prog 184 [.agg t.cells] H (.int .i64 t.th) H:=by
 induction ht with
 | @mk k nm s b kids hk hs hn hl hok ih=>
 have hc:=c169 nm
 obtain ⟨R,hR⟩:∃ R,R=(Tm.mk k nm s b kids).th:=⟨_,rfl⟩
 rw [← hR]
 simp only [Tm.th] at hR
 have hp:=symF_priv (nm:=nm)
 obtain ⟨sn,sl,sm,sk,sy⟩:∃ sn sl sm sk,symF nm=⟨sn,sl,sm,sk⟩:=⟨_,_,_,_,rfl⟩
 rw [sy] at hc hR hp
 simp only [] at hR hp
 refine κw tOk fe184.ok rfl ?_
 repeat' first | refine κn ?_ | refine κk ?_ | refine κc (hc _) ?_ | refine κl ?_ | refine κt ?_ | refine κb ?_ ?_ | refine κg ?_ | refine κa ?_ | refine κf ?_ | intro hb
 all_goals first
  | (rw [hR,if_pos (by simpa using hb)];done)
  | (rw [hR,if_neg (by simpa using ‹(k != 3)=false›),if_pos (by simpa using hb)];done)
  | (rw [hR,if_neg (by simpa using ‹(k != 3)=false›),if_neg (by simpa using ‹((Sym.mk sn sl sm sk).kind == 0)=false›),if_pos (by rw [cellsL_length] at hb;simp at hb;omega)];done)
  | skip
 all_goals
  rw [if_neg (by simpa using ‹(k != 3)=false›),if_neg (by simpa using ‹((Sym.mk sn sl sm sk).kind == 0)=false›),if_neg (by
   have h1:= ‹decide (((cellsL kids).length:Int) < (Sym.mk sn sl sm sk).least)=false›
   have h2:= ‹decide ((Sym.mk sn sl sm sk).most < ((cellsL kids).length:Int))=false›
   rw [cellsL_length] at h1 h2
   simp at h1 h2
   omega)] at hR
  clear hc
  unfold maxLen at hl
 · have e : nm = [115, 107] := by simpa using hb
   have hsk:sk=2:=hp.2 (by simp [e])
   rw [privF_all (by rw [e];simp)] at hR
   refine Wp.while (fun m tm H=>∃ (i:Nat),∃ base,i+m=kids.length∧kids.all agentB=(kids.drop i).all agentB∧tm=ovr base [(1,.ptr 0 4 0 0),(38,slV b 4 (cellsL kids)),(39,.int .i64 (kids.length:Int)),(40,.int .i64 (i:Int))]∧H=⟨[.cells 4 [[.int .i64 k,.str nm,.int .i64 s,slV b 4 (cellsL kids)]],.cells 4 [[.str sn,.int .i64 sl,.int .i64 sm,.int .i64 sk]]],0,[],0⟩)
    (fun m tm H hI=>Wp.drop ?_) kids.length _ _ ⟨0,_,by omega,by simp,ovr_mk ⟨rfl,rfl,int_eq (by rw [cellsL_length]),rfl,trivial⟩,rfl⟩
   obtain ⟨i,base,hi,hall,rfl,rfl⟩:=hI
   by_cases hlt:i < kids.length
   · obtain ⟨t', ht'⟩ : ∃ t', kids[i]? = some t' := ⟨kids[i], by simp⟩
     rw [all_drop ht'] at hall
     obtain ⟨k',nm',s',b',kids'⟩:=t'
     have hj:=cellsL_get ht'
     repeat' first | refine κn ?_ | refine κk ?_ | refine κl ?_ | refine κx ?_ | refine κt ?_ | refine κb ?_ ?_ | refine κz ?_ ?_ | refine κg ?_ | refine κa ?_ | refine κf ?_ | intro hb
     · rw [hR,if_pos ⟨hsk,by rw [hall];simp at hb;simp [agentB,hb]⟩]
     · rw [hR,if_pos ⟨hsk,by rw [hall];simp at hb;simp [agentB,hb]⟩]
     · have hA : agentB (Tm.mk k' nm' s' b' kids') = true := by
         have h1:= ‹(k' == 3)=false›
         have h2:= ‹(s' != 1)=false›
         simp at h1 h2
         simp [agentB,h1,h2]
       rw [hA,Bool.true_and] at hall
       exact DropQ.go [(1,.ptr 0 4 0 0),(38,slV b 4 (cellsL kids)),(39,.int .i64 (kids.length:Int)),(40,.int .i64 ((i+1:Nat):Int))] ⟨rfl,rfl,rfl,int_eq (wrap_nat (n:=i+1) (by omega)),trivial⟩
        (by simp [under_slV,under]) rfl (by simp [boxU,underL,under_slV,under]) (LoopI.go (m - 1) (by omega) ⟨i+1,_,by omega,hall,rfl,rfl⟩)
     · exfalso;simp at hb;omega
   · have e : i = kids.length := by omega
     subst e
     repeat' first | refine κn ?_ | refine κl ?_ | refine κz ?_ ?_ | refine κg ?_ | refine κa ?_ | intro hb
     · exfalso;simp at hb
     have hall:kids.all agentB=true:=by rw [hall,List.drop_length];rfl
     rw [if_neg (by simp [hall])] at hR
     refine Wp.while (fun m tm H=>∃ (i:Nat),∃ base,i+m=kids.length∧R=thL (kids.drop i)∧tm=ovr base [(62,slV b 4 (cellsL kids)),(63,.int .i64 (kids.length:Int)),(64,.int .i64 (i:Int))]∧H=⟨[.cells 4 [[.int .i64 k,.str nm,.int .i64 s,slV b 4 (cellsL kids)]],.cells 4 [[.str sn,.int .i64 sl,.int .i64 sm,.int .i64 sk]]],0,[],0⟩)
      (fun m tm H hI=>Wp.drop ?_) kids.length _ _ ⟨0,_,by omega,by simpa using hR,ovr_mk ⟨rfl,int_eq (by rw [cellsL_length]),rfl,trivial⟩,rfl⟩
     clear hR
     obtain ⟨i,base,hi,hR,rfl,rfl⟩:=hI
     by_cases hlt:i < kids.length
     · obtain ⟨t', ht'⟩ : ∃ t', kids[i]? = some t' := ⟨kids[i], by simp⟩
       have hm:t'∈kids:=List.mem_of_getElem? ht'
       have hc:=ih t' hm
       obtain ⟨e1,he1⟩:∃ e1,t'.th=e1:=⟨_,rfl⟩
       rw [he1] at hc
       rw [thL_drop ht' he1] at hR
       obtain ⟨k',nm',s',b',kids'⟩:=t'
       have hj:=cellsL_get ht'
       repeat' first | refine κn ?_ | refine κc (hc _) ?_ | refine κx ?_ | refine κb ?_ ?_ | refine κz ?_ ?_ | refine κg ?_ | refine κa ?_ | refine κf ?_ | intro hb
       · rw [hR,if_pos (by simpa using hb)]
       · rw [if_neg (by simpa using hb)] at hR
         exact DropQ.go [(62,slV b 4 (cellsL kids)),(63,.int .i64 (kids.length:Int)),(64,.int .i64 ((i+1:Nat):Int))] ⟨rfl,rfl,int_eq (wrap_nat (n:=i+1) (by omega)),trivial⟩
          (by simp [under_slV,under]) rfl (by simp [boxU,underL,under_slV,under]) (LoopI.go (m - 1) (by omega) ⟨i+1,_,by omega,hR,rfl,rfl⟩)
       · exfalso;first | (simp at hb;omega) | (simp at hb hlt;omega)
     · have e : i = kids.length := by omega
       subst e
       repeat' first | refine κn ?_ | refine κz ?_ ?_ | refine κg ?_ | refine κa ?_ | refine κf ?_ | intro hb
       · exfalso;simp at hb
       · rw [hR, List.drop_length]
         simp [thL]
 · have e : nm = [115, 104, 107] := by simpa using hb
   have hsk:sk=2:=hp.2 (by simp [e])
   rw [privF_all (by rw [e];simp)] at hR
   refine Wp.while (fun m tm H=>∃ (i:Nat),∃ base,i+m=kids.length∧kids.all agentB=(kids.drop i).all agentB∧tm=ovr base [(1,.ptr 0 4 0 0),(38,slV b 4 (cellsL kids)),(39,.int .i64 (kids.length:Int)),(40,.int .i64 (i:Int))]∧H=⟨[.cells 4 [[.int .i64 k,.str nm,.int .i64 s,slV b 4 (cellsL kids)]],.cells 4 [[.str sn,.int .i64 sl,.int .i64 sm,.int .i64 sk]]],0,[],0⟩)
    (fun m tm H hI=>Wp.drop ?_) kids.length _ _ ⟨0,_,by omega,by simp,ovr_mk ⟨rfl,rfl,int_eq (by rw [cellsL_length]),rfl,trivial⟩,rfl⟩
   obtain ⟨i,base,hi,hall,rfl,rfl⟩:=hI
   by_cases hlt:i < kids.length
   · obtain ⟨t', ht'⟩ : ∃ t', kids[i]? = some t' := ⟨kids[i], by simp⟩
     rw [all_drop ht'] at hall
     obtain ⟨k',nm',s',b',kids'⟩:=t'
     have hj:=cellsL_get ht'
     repeat' first | refine κn ?_ | refine κk ?_ | refine κl ?_ | refine κx ?_ | refine κt ?_ | refine κb ?_ ?_ | refine κz ?_ ?_ | refine κg ?_ | refine κa ?_ | refine κf ?_ | intro hb
     · rw [hR,if_pos ⟨hsk,by rw [hall];simp at hb;simp [agentB,hb]⟩]
     · rw [hR,if_pos ⟨hsk,by rw [hall];simp at hb;simp [agentB,hb]⟩]
     · have hA : agentB (Tm.mk k' nm' s' b' kids') = true := by
         have h1:= ‹(k' == 3)=false›
         have h2:= ‹(s' != 1)=false›
         simp at h1 h2
         simp [agentB,h1,h2]
       rw [hA,Bool.true_and] at hall
       exact DropQ.go [(1,.ptr 0 4 0 0),(38,slV b 4 (cellsL kids)),(39,.int .i64 (kids.length:Int)),(40,.int .i64 ((i+1:Nat):Int))] ⟨rfl,rfl,rfl,int_eq (wrap_nat (n:=i+1) (by omega)),trivial⟩
        (by simp [under_slV,under]) rfl (by simp [boxU,underL,under_slV,under]) (LoopI.go (m - 1) (by omega) ⟨i+1,_,by omega,hall,rfl,rfl⟩)
     · exfalso;simp at hb;omega
   · have e : i = kids.length := by omega
     subst e
     repeat' first | refine κn ?_ | refine κl ?_ | refine κz ?_ ?_ | refine κg ?_ | refine κa ?_ | intro hb
     · exfalso;simp at hb
     have hall:kids.all agentB=true:=by rw [hall,List.drop_length];rfl
     rw [if_neg (by simp [hall])] at hR
     refine Wp.while (fun m tm H=>∃ (i:Nat),∃ base,i+m=kids.length∧R=thL (kids.drop i)∧tm=ovr base [(62,slV b 4 (cellsL kids)),(63,.int .i64 (kids.length:Int)),(64,.int .i64 (i:Int))]∧H=⟨[.cells 4 [[.int .i64 k,.str nm,.int .i64 s,slV b 4 (cellsL kids)]],.cells 4 [[.str sn,.int .i64 sl,.int .i64 sm,.int .i64 sk]]],0,[],0⟩)
      (fun m tm H hI=>Wp.drop ?_) kids.length _ _ ⟨0,_,by omega,by simpa using hR,ovr_mk ⟨rfl,int_eq (by rw [cellsL_length]),rfl,trivial⟩,rfl⟩
     clear hR
     obtain ⟨i,base,hi,hR,rfl,rfl⟩:=hI
     by_cases hlt:i < kids.length
     · obtain ⟨t', ht'⟩ : ∃ t', kids[i]? = some t' := ⟨kids[i], by simp⟩
       have hm:t'∈kids:=List.mem_of_getElem? ht'
       have hc:=ih t' hm
       obtain ⟨e1,he1⟩:∃ e1,t'.th=e1:=⟨_,rfl⟩
       rw [he1] at hc
       rw [thL_drop ht' he1] at hR
       obtain ⟨k',nm',s',b',kids'⟩:=t'
       have hj:=cellsL_get ht'
       repeat' first | refine κn ?_ | refine κc (hc _) ?_ | refine κx ?_ | refine κb ?_ ?_ | refine κz ?_ ?_ | refine κg ?_ | refine κa ?_ | refine κf ?_ | intro hb
       · rw [hR,if_pos (by simpa using hb)]
       · rw [if_neg (by simpa using hb)] at hR
         exact DropQ.go [(62,slV b 4 (cellsL kids)),(63,.int .i64 (kids.length:Int)),(64,.int .i64 ((i+1:Nat):Int))] ⟨rfl,rfl,int_eq (wrap_nat (n:=i+1) (by omega)),trivial⟩
          (by simp [under_slV,under]) rfl (by simp [boxU,underL,under_slV,under]) (LoopI.go (m - 1) (by omega) ⟨i+1,_,by omega,hR,rfl,rfl⟩)
       · exfalso;first | (simp at hb;omega) | (simp at hb hlt;omega)
     · have e : i = kids.length := by omega
       subst e
       repeat' first | refine κn ?_ | refine κz ?_ ?_ | refine κg ?_ | refine κa ?_ | refine κf ?_ | intro hb
       · exfalso;simp at hb
       · rw [hR, List.drop_length]
         simp [thL]
 · have e : nm = [110, 101, 119] := by simpa using hb
   subst e
   obtain ⟨rfl,rfl,rfl,rfl⟩:sn= [110,101,119]∧sl=1∧sm=8∧sk=2:=by
    have:symF [110,101,119]=⟨[110,101,119],1,8,2⟩:=rfl
    rw [this] at sy
    cases sy
    exact ⟨rfl,rfl,rfl,rfl⟩
   obtain ⟨a,r,rfl⟩:∃ a r,kids=a :: r:=by
    cases kids with
    | nil =>
      exfalso
      have h1:= ‹decide (((cellsL []).length:Int) < _)=false›
      rw [cellsL_length] at h1
      simp at h1
    | cons a r=>exact ⟨a,r,rfl⟩
   obtain ⟨ka,na,sa,ba,la⟩:=a
   have hj:=idxT (b:=b) (show (Tm.mk ka na sa ba la :: r)[0]? = some (Tm.mk ka na sa ba la) from rfl)
   repeat' first | refine κn ?_ | refine κJ ?_ | refine κl ?_ | refine κb ?_ ?_ | refine κg ?_ | refine κa ?_ | refine κf ?_ | intro hb
   · rw [hR,if_pos ⟨rfl,by simp at hb;simp [privF,hb]⟩]
   · rw [if_neg (by simp at hb; simp [privF, hb])] at hR
     clear hj
     refine Wp.while (fun m tm H=>∃ (i:Nat),∃ base,i+m=(Tm.mk ka na sa ba la :: r).length∧R=thL ((Tm.mk ka na sa ba la :: r).drop i)∧tm=ovr base [(62,slV b 4 (cellsL (Tm.mk ka na sa ba la :: r))),(63,.int .i64 ((Tm.mk ka na sa ba la :: r).length:Int)),(64,.int .i64 (i:Int))]∧H=⟨[.cells 4 [[.int .i64 k,.str [110,101,119],.int .i64 s,slV b 4 (cellsL (Tm.mk ka na sa ba la :: r))]],.cells 4 [[.str [110,101,119],.int .i64 1,.int .i64 8,.int .i64 2]]],0,[],0⟩)
      (fun m tm H hI=>Wp.drop ?_) (Tm.mk ka na sa ba la :: r).length _ _ ⟨0,_,by omega,by simpa using hR,ovr_mk ⟨rfl,int_eq (by rw [cellsL_length]),rfl,trivial⟩,rfl⟩
     clear hR
     obtain ⟨i,base,hi,hR,rfl,rfl⟩:=hI
     by_cases hlt:i < (Tm.mk ka na sa ba la :: r).length
     · obtain ⟨t', ht'⟩ : ∃ t', (Tm.mk ka na sa ba la :: r)[i]? = some t' := ⟨(Tm.mk ka na sa ba la :: r)[i], by simp⟩
       have hm:t'∈(Tm.mk ka na sa ba la :: r):=List.mem_of_getElem? ht'
       have hc:=ih t' hm
       obtain ⟨e1,he1⟩:∃ e1,t'.th=e1:=⟨_,rfl⟩
       rw [he1] at hc
       rw [thL_drop ht' he1] at hR
       obtain ⟨k',nm',s',b',kids'⟩:=t'
       have hj:=cellsL_get ht'
       repeat' first | refine κn ?_ | refine κc (hc _) ?_ | refine κx ?_ | refine κb ?_ ?_ | refine κz ?_ ?_ | refine κg ?_ | refine κa ?_ | refine κf ?_ | intro hb
       · rw [hR,if_pos (by simpa using hb)]
       · rw [if_neg (by simpa using hb)] at hR
         exact DropQ.go [(62,slV b 4 (cellsL (Tm.mk ka na sa ba la :: r))),(63,.int .i64 ((Tm.mk ka na sa ba la :: r).length:Int)),(64,.int .i64 ((i+1:Nat):Int))] ⟨rfl,rfl,int_eq (wrap_nat (n:=i+1) (by omega)),trivial⟩
          (by simp [under_slV,under]) rfl (by simp [boxU,underL,under_slV,under]) (LoopI.go (m - 1) (by omega) ⟨i+1,_,by omega,hR,rfl,rfl⟩)
       · exfalso;first | (simp at hb;omega) | (simp at hb hlt;omega)
     · have e : i = (Tm.mk ka na sa ba la :: r).length := by omega
       subst e
       repeat' first | refine κn ?_ | refine κz ?_ ?_ | refine κg ?_ | refine κa ?_ | refine κf ?_ | intro hb
       · exfalso;simp at hb
       · rw [hR, List.drop_length]
         simp [thL]
 · have hR : R = thL kids := by
     rw [hR,if_neg]
     rintro ⟨h1,h2⟩
     rcases hp.1 h1 with e | e | e <;> (subst e;simp at *)
   refine Wp.while (fun m tm H=>∃ (i:Nat),∃ base,i+m=kids.length∧R=thL (kids.drop i)∧tm=ovr base [(62,slV b 4 (cellsL kids)),(63,.int .i64 (kids.length:Int)),(64,.int .i64 (i:Int))]∧H=⟨[.cells 4 [[.int .i64 k,.str nm,.int .i64 s,slV b 4 (cellsL kids)]],.cells 4 [[.str sn,.int .i64 sl,.int .i64 sm,.int .i64 sk]]],0,[],0⟩)
    (fun m tm H hI=>Wp.drop ?_) kids.length _ _ ⟨0,_,by omega,by simpa using hR,ovr_mk ⟨rfl,int_eq (by rw [cellsL_length]),rfl,trivial⟩,rfl⟩
   clear hR
   obtain ⟨i,base,hi,hR,rfl,rfl⟩:=hI
   by_cases hlt:i < kids.length
   · obtain ⟨t', ht'⟩ : ∃ t', kids[i]? = some t' := ⟨kids[i], by simp⟩
     have hm:t'∈kids:=List.mem_of_getElem? ht'
     have hc:=ih t' hm
     obtain ⟨e1,he1⟩:∃ e1,t'.th=e1:=⟨_,rfl⟩
     rw [he1] at hc
     rw [thL_drop ht' he1] at hR
     obtain ⟨k',nm',s',b',kids'⟩:=t'
     have hj:=cellsL_get ht'
     repeat' first | refine κn ?_ | refine κc (hc _) ?_ | refine κx ?_ | refine κb ?_ ?_ | refine κz ?_ ?_ | refine κg ?_ | refine κa ?_ | refine κf ?_ | intro hb
     · rw [hR,if_pos (by simpa using hb)]
     · rw [if_neg (by simpa using hb)] at hR
       exact DropQ.go [(62,slV b 4 (cellsL kids)),(63,.int .i64 (kids.length:Int)),(64,.int .i64 ((i+1:Nat):Int))] ⟨rfl,rfl,int_eq (wrap_nat (n:=i+1) (by omega)),trivial⟩
        (by simp [under_slV,under]) rfl (by simp [boxU,underL,under_slV,under]) (LoopI.go (m - 1) (by omega) ⟨i+1,_,by omega,hR,rfl,rfl⟩)
     · exfalso;first | (simp at hb;omega) | (simp at hb hlt;omega)
   · have e : i = kids.length := by omega
     subst e
     repeat' first | refine κn ?_ | refine κz ?_ ?_ | refine κg ?_ | refine κa ?_ | refine κf ?_ | intro hb
     · exfalso;simp at hb
     · rw [hR, List.drop_length]
       simp [thL]
theorem c101 {t:Tm} (ht:t.Ok) (hsz:t.size < 4611686018427387000):∀ H,CallOk E0 Tryz.prog 101 [.agg t.cells] H (.int .i64 (if t.valid≠0 then t.valid else t.th)) H:=by
 have h1:=c48 ht hsz
 have h2:=c184 ht
 generalize t.valid=e at h1
 generalize t.th=e2 at h2
 obtain ⟨k,nm,s,b,kids⟩:=t
 refine κw tOk fe101.ok rfl ?_
 repeat' first | refine κn ?_ | refine κc (h1 _) ?_ | refine κc (h2 _) ?_ | refine κb ?_ ?_ | refine κg ?_ | refine κa ?_ | refine κf ?_ | intro hb
 · rw [if_pos (by simpa using hb)]
 · rw [if_neg (by simpa using hb)]
theorem freL_drop {l:List Tm} {i:Nat} {t:Tm} {e:Bool} (h:l[i]? = some t) (he:t.fre=e):freL (l.drop i)=(e && freL (l.drop (i+1))):=by
 rw [drop_cons h];simp only [freL,he]
theorem c168 (nm:List UInt8):∀ H,CallOk E0 Tryz.prog 168 [.str nm] H (.bool (fNmB nm)) H:=by
 have hc:=c169 nm
 unfold fNmB algB
 generalize symF nm=y at hc
 obtain ⟨sn,sl,sm,sk⟩:=y
 refine κw tOk fe168.ok rfl ?_
 repeat' first | refine κn ?_ | refine κc (hc _) ?_ | refine κt ?_ | refine κb ?_ ?_ | refine κg ?_ | refine κa ?_ | refine κf ?_ | intro hb
 all_goals (refine ifq ?_;clear hc;simp_all)
theorem c167 {t:Tm} (ht:t.Ok):∀ H,CallOk E0 Tryz.prog 167 [.agg t.cells,.fn 168 []] H (.bool t.fre) H:=by
 induction ht with
 | @mk k nm s b kids hk hs hn hl hok ih=>
 have hc:=c168 nm
 simp only [Tm.fre]
 generalize fNmB nm=e at hc
 refine κw tOk fe167.ok rfl ?_
 repeat' first | refine κn ?_ | refine κk ?_ | refine κc (hc _) ?_ | refine κl ?_ | refine κt ?_ | refine κb ?_ ?_ | refine κg ?_ | refine κa ?_ | refine κf ?_ | intro hb
 · have h1 := ‹(k == 3) = true›
   simp at h1 hb
   simp [h1,hb]
 all_goals
  have he:(if k=3 then e else true)=true:=by
   first
    | (have h1:= ‹(k == 3)=true›;simp at h1 hb;simp [h1,hb];done)
    | (simp at hb;simp [hb];done)
  rw [he,Bool.true_and]
  clear hc
  unfold maxLen at hl
  refine Wp.while (fun m tm H=>∃ (i:Nat),∃ base,i+m=kids.length∧freL kids=freL (kids.drop i)∧tm=ovr base [(1,.fn 168 []),(18,slV b 4 (cellsL kids)),(19,.int .i64 (kids.length:Int)),(20,.int .i64 (i:Int))]∧H=⟨[.cells 4 [[.int .i64 k,.str nm,.int .i64 s,slV b 4 (cellsL kids)]]],0,[],0⟩)
   (fun m tm H hI=>Wp.drop ?_) kids.length _ _ ⟨0,_,by omega,by simp,ovr_mk ⟨rfl,rfl,int_eq (by rw [cellsL_length]),rfl,trivial⟩,rfl⟩
  obtain ⟨i,base,hi,hgo,rfl,rfl⟩:=hI
  rw [hgo]
  by_cases hlt:i < kids.length
  · obtain ⟨t', ht'⟩ : ∃ t', kids[i]? = some t' := ⟨kids[i], by simp⟩
    have hm:t'∈kids:=List.mem_of_getElem? ht'
    have hc:=ih t' hm
    obtain ⟨e1,he1⟩:∃ e1,t'.fre=e1:=⟨_,rfl⟩
    rw [he1] at hc
    rw [freL_drop ht' he1]
    obtain ⟨k',nm',s',b',kids'⟩:=t'
    have hj:=cellsL_get ht'
    repeat' first | refine κn ?_ | refine κc (hc _) ?_ | refine κx ?_ | refine κt ?_ | refine κb ?_ ?_ | refine κz ?_ ?_ | refine κg ?_ | refine κa ?_ | refine κf ?_ | intro hb
    · simp at hb;simp [hb]
    · have h1 : e1 = true := by simpa using hb
      rw [h1,Bool.true_and]
      exact DropQ.go [(1,.fn 168 []),(18,slV b 4 (cellsL kids)),(19,.int .i64 (kids.length:Int)),(20,.int .i64 ((i+1:Nat):Int))] ⟨rfl,rfl,rfl,int_eq (wrap_nat (n:=i+1) (by omega)),trivial⟩
       (by simp [under_slV,under,underL]) rfl (by simp [boxU,underL,under_slV,under]) (LoopI.go (m - 1) (by omega) ⟨i+1,_,by omega,rfl,rfl,rfl⟩)
    · exfalso;simp at hb;omega
  · have e : i = kids.length := by omega
    subst e
    repeat' first | refine κn ?_ | refine κt ?_ | refine κz ?_ ?_ | refine κa ?_ | refine κf ?_ | intro hb
    · exfalso;simp at hb
    · simp [freL]
theorem c84 {t:Tm} (ht:t.Ok) (hsz:t.size < 4611686018427387000):∀ H,CallOk E0 Tryz.prog 84 [.agg t.cells] H (.bool (decide (t.valid=0∧t.th=0) && t.fre)) H:=by
 have h1:=c101 ht hsz
 have h2:=c167 ht
 generalize t.fre=f at h2
 have he:decide (t.valid=0∧t.th=0)=decide ((if t.valid≠0 then t.valid else t.th)=0):=by
  congr 1;apply propext
  split <;> omega
 rw [he]
 clear he
 generalize (if t.valid≠0 then t.valid else t.th)=e at h1
 obtain ⟨k,nm,s,b,kids⟩:=t
 refine κw tOk fe84.ok rfl ?_
 repeat' first | refine κn ?_ | refine κk ?_ | refine κc (h1 _) ?_ | refine κc (h2 _) ?_ | refine κt ?_ | refine κb ?_ ?_ | refine κg ?_ | refine κa ?_ | refine κf ?_ | intro hb
 all_goals (refine ifq ?_;clear h1 h2;simp_all)
end Go.Vm.Seat
