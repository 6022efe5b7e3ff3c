/-
  The symbols of the theory, and the terms that it allows: the program's text.
-/
import Derived.Test.YtcopccjkfbmpcaaGreatDoorTv3
set_option maxHeartbeats 0
set_option maxRecDepth 100000
namespace Go.Vm.Seat
variable {nm:List UInt8} {kz l:List Tm} {i:Nat} {t:Tm}
open Go.Proofs
theorem ZuV:∀ H,CallOk E0 Tryz.prog 193 [] H (slV true 4 (ZcN Zbc)) H:=by
 have e:slV true 4 (ZcN Zbc)= .sl .none 4 (ZcN Zbc):=Zm _ _ _ _
 rw [e]
 exact Ys (x:=⟨193,[],.sl .none 4 (ZcN Zbc)⟩) tOk follows fOk zOk (fuel:=100) (k:=20) (by kernel_rfl)
theorem Ql {l:List Sym} {s:Sym} (h:l[i]? = some s):Ve nm (l.drop i)=if (s.name==nm)=true then some s else Ve nm (l.drop (i+1)):=by
 rw [Zy h];simp only [Ve]
theorem ZtF (nm:List UInt8):∀ H,CallOk E0 Tryz.prog 169 [.str nm] H (.agg (YA nm).cells) H:=by
 have hc:=ZuV
 obtain ⟨l,hl⟩:∃ l,l=Zbc:=⟨_,rfl⟩
 have hlen:l.length=21:=by rw [hl];rfl
 unfold YA
 rw [← hl] at hc ⊢
 refine Jw tOk fe169.ok rfl ?_
 repeat' first|refine Jc (hc _) ?_|refine Jl ?_|refine Jo ?_|fail
 refine Wp.while (fun m tm H=>∃ (i:Nat),∃ base,i+m=l.length∧Ve nm l=Ve nm (l.drop i)∧tm=ovr base [(0,.str nm),(2,.ptr 0 4 0 0),(5,slV true 4 (ZcN l)),(6,.int .i64 (l.length:Int)),(7,.int .i64 (i:Int))]∧H=⟨[.cells 4 [[.str [],.int .i64 0,.int .i64 0,.int .i64 0]]],0,[],0⟩)
  (fun m tm H hI=>Wp.drop ?_) l.length _ _ ⟨0,_,by omega,by simp,Zf ⟨rfl,rfl,rfl,Ze (by rw [UQ]),rfl,trivial⟩,rfl⟩
 clear hc hl
 obtain ⟨i,base,hi,hgo,rfl,rfl⟩:=hI
 rw [hgo]
 by_cases hlt:i<l.length
 · obtain ⟨s, hs⟩ : ∃ s, l[i]? = some s := ⟨l[i], by simp⟩
   rw [Ql hs]
   obtain ⟨sn,sl,sm,sk⟩:=s
   have hj:(ZcN l)[i]? = some [.str sn,.int .i64 sl,.int .i64 sm,.int .i64 sk]:=ZcT hs
   repeat' first|refine Jx ?_|refine Jb ?_ ?_|refine Jz ?_ ?_|refine Jo ?_|intro hb
   · rw [if_pos (by simpa using hb)]
     rfl
   · rw [if_neg (by simpa using hb)]
     exact DropQ.go [(0,.str nm),(2,.ptr 0 4 0 0),(5,slV true 4 (ZcN l)),(6,.int .i64 (l.length:Int)),(7,.int .i64 ((i+1:Nat):Int))] ⟨rfl,rfl,rfl,rfl,Ze (Zd (n:=i+1) (by omega)),trivial⟩
      (by simp [Zh,under]) rfl (by simp [YJ,ZM,under]) (LoopI.go (m-1) (by omega) ⟨i+1,_,by omega,rfl,rfl,rfl⟩)
   · exfalso;simp at hb;omega
 · have e : i = l.length := by omega
   subst e
   repeat' first|refine Jz ?_ ?_|refine Jo ?_|intro hb
   · exfalso;simp at hb
   · rw [List.drop_length]
     rfl
theorem U7 {e:Int} (h:l[i]? = some t) (he:t.th=e):thL (l.drop i)=if e≠0 then e else thL (l.drop (i+1)):=by
 rw [Zy h];simp only [thL,he]
def YZ (t:Tm):Bool:=match t with| .mk k _ s _ _=> !(decide (k=3))&&decide (s=1)
theorem Zaf (h:nm≠ [110,101,119]):WF nm kz=kz.all YZ:=by
 unfold WF;rw [if_neg h];rfl
theorem Zub {b:Bool} (h:kz[i]? = some t):Zv E0 29 (slV b 4 (Za kz)) (.int .i64 (i:Int))=some (.fptr t.cells 0):=by
 refine Wm (E:=E0) (t:=29) (e:=48) rfl rfl rfl rfl b ?_
 obtain ⟨k,nm,s,b',kz'⟩:=t
 exact Zk h
theorem Zcf {p:Tm→Bool} (h:l[i]? = some t):(l.drop i).all p=(p t&&(l.drop (i+1)).all p):=by
 rw [Zy h];rfl
theorem Zv7 (ht:t.Ok):∀ H,CallOk E0 Tryz.prog 163 [.agg t.cells] H (.int .i64 t.th) H:=by
 induction ht with
 | @mk k nm s b kz hk hs hn hl hok ih=>
 have hc:=ZtF nm
 obtain ⟨R,hR⟩:∃ R,R=(Tm.mk k nm s b kz).th:=⟨_,rfl⟩
 rw [← hR]
 simp only [Tm.th] at hR
 have hp:=ZiJ (nm:=nm)
 obtain ⟨sn,sl,sm,sk,sy⟩:∃ sn sl sm sk,YA nm=⟨sn,sl,sm,sk⟩:=⟨_,_,_,_,rfl⟩
 rw [sy] at hc hR hp
 simp only [] at hR hp
 refine Jw tOk fe163.ok rfl ?_
 repeat' first|refine Jk ?_|refine Jc (hc _) ?_|refine Jl ?_|refine Jt ?_|refine Jb ?_ ?_|refine Jo ?_|intro hb
 all_goals first
  | (rw [hR,if_pos (by simpa using hb)];done)
  | (rw [hR,if_neg (by simpa using ‹(k != 3)=false›),if_pos (by simpa using hb)];done)
  | (rw [hR,if_neg (by simpa using ‹(k != 3)=false›),if_neg (by simpa using ‹((Sym.mk sn sl sm sk).kind==0)=false›),if_pos (by rw [Zb] at hb;simp at hb;omega)];done)
  | skip
 all_goals
  rw [if_neg (by simpa using ‹(k != 3)=false›),if_neg (by simpa using ‹((Sym.mk sn sl sm sk).kind==0)=false›),if_neg (by
   have h1:= ‹decide (((Za kz).length:Int)<(Sym.mk sn sl sm sk).least)=false›
   have h2:= ‹decide ((Sym.mk sn sl sm sk).most<((Za kz).length:Int))=false›
   rw [Zb] at h1 h2
   simp at h1 h2
   omega)] at hR
  clear hc
  unfold maxLen at hl
 · have e : nm = [115, 107] := by simpa using hb
   have hsk:sk=2:=hp.2 (by simp [e])
   rw [Zaf (by rw [e];simp)] at hR
   refine Wp.while (fun m tm H=>∃ (i:Nat),∃ base,i+m=kz.length∧kz.all YZ=(kz.drop i).all YZ∧tm=ovr base [(1,.ptr 0 4 0 0),(38,slV b 4 (Za kz)),(39,.int .i64 (kz.length:Int)),(40,.int .i64 (i:Int))]∧H=⟨[.cells 4 [[.int .i64 k,.str nm,.int .i64 s,slV b 4 (Za kz)]],.cells 4 [[.str sn,.int .i64 sl,.int .i64 sm,.int .i64 sk]]],0,[],0⟩)
    (fun m tm H hI=>Wp.drop ?_) kz.length _ _ ⟨0,_,by omega,by simp,Zf ⟨rfl,rfl,Ze (by rw [Zb]),rfl,trivial⟩,rfl⟩
   obtain ⟨i,base,hi,hall,rfl,rfl⟩:=hI
   by_cases hlt:i<kz.length
   · obtain ⟨t', ht'⟩ : ∃ t', kz[i]? = some t' := ⟨kz[i], by simp⟩
     rw [Zcf ht'] at hall
     obtain ⟨k',nm',s',b',kz'⟩:=t'
     have hj:=Zk ht'
     repeat' first|refine Jk ?_|refine Jl ?_|refine Jx ?_|refine Jt ?_|refine Jb ?_ ?_|refine Jz ?_ ?_|refine Jo ?_|intro hb
     · rw [hR,if_pos ⟨hsk,by rw [hall];simp at hb;simp [YZ,hb]⟩]
     · rw [hR,if_pos ⟨hsk,by rw [hall];simp at hb;simp [YZ,hb]⟩]
     · have hA : YZ (Tm.mk k' nm' s' b' kz') = true := by
         have h1:= ‹(k'==3)=false›
         have h2:= ‹(s' != 1)=false›
         simp at h1 h2
         simp [YZ,h1,h2]
       rw [hA,Bool.true_and] at hall
       exact DropQ.go [(1,.ptr 0 4 0 0),(38,slV b 4 (Za kz)),(39,.int .i64 (kz.length:Int)),(40,.int .i64 ((i+1:Nat):Int))] ⟨rfl,rfl,rfl,Ze (Zd (n:=i+1) (by omega)),trivial⟩
        (by simp [Zh,under]) rfl (by simp [YJ,ZM,Zh,under]) (LoopI.go (m-1) (by omega) ⟨i+1,_,by omega,hall,rfl,rfl⟩)
     · exfalso;simp at hb;omega
   · have e : i = kz.length := by omega
     subst e
     repeat' first|refine Jl ?_|refine Jz ?_ ?_|refine Jo ?_|intro hb
     · exfalso;simp at hb
     have hall:kz.all YZ=true:=by rw [hall,List.drop_length];rfl
     rw [if_neg (by simp [hall])] at hR
     refine Wp.while (fun m tm H=>∃ (i:Nat),∃ base,i+m=kz.length∧R=thL (kz.drop i)∧tm=ovr base [(62,slV b 4 (Za kz)),(63,.int .i64 (kz.length:Int)),(64,.int .i64 (i:Int))]∧H=⟨[.cells 4 [[.int .i64 k,.str nm,.int .i64 s,slV b 4 (Za kz)]],.cells 4 [[.str sn,.int .i64 sl,.int .i64 sm,.int .i64 sk]]],0,[],0⟩)
      (fun m tm H hI=>Wp.drop ?_) kz.length _ _ ⟨0,_,by omega,by simpa using hR,Zf ⟨rfl,Ze (by rw [Zb]),rfl,trivial⟩,rfl⟩
     clear hR
     obtain ⟨i,base,hi,hR,rfl,rfl⟩:=hI
     by_cases hlt:i<kz.length
     · obtain ⟨t', ht'⟩ : ∃ t', kz[i]? = some t' := ⟨kz[i], by simp⟩
       have hm:t'∈kz:=List.mem_of_getElem? ht'
       have hc:=ih t' hm
       obtain ⟨e1,he1⟩:∃ e1,t'.th=e1:=⟨_,rfl⟩
       rw [he1] at hc
       rw [U7 ht' he1] at hR
       obtain ⟨k',nm',s',b',kz'⟩:=t'
       have hj:=Zk ht'
       repeat' first|refine Jc (hc _) ?_|refine Jx ?_|refine Jb ?_ ?_|refine Jz ?_ ?_|refine Jo ?_|intro hb
       · rw [hR,if_pos (by simpa using hb)]
       · rw [if_neg (by simpa using hb)] at hR
         exact DropQ.go [(62,slV b 4 (Za kz)),(63,.int .i64 (kz.length:Int)),(64,.int .i64 ((i+1:Nat):Int))] ⟨rfl,rfl,Ze (Zd (n:=i+1) (by omega)),trivial⟩
          (by simp [Zh,under]) rfl (by simp [YJ,ZM,Zh,under]) (LoopI.go (m-1) (by omega) ⟨i+1,_,by omega,hR,rfl,rfl⟩)
       · exfalso;first|(simp at hb;omega)|(simp at hb hlt;omega)
     · have e : i = kz.length := by omega
       subst e
       repeat' first|refine Jz ?_ ?_|refine Jo ?_|intro hb
       · exfalso;simp at hb
       · rw [hR, List.drop_length]
         simp [thL]
 · have e : nm = [115, 104, 107] := by simpa using hb
   have hsk:sk=2:=hp.2 (by simp [e])
   rw [Zaf (by rw [e];simp)] at hR
   refine Wp.while (fun m tm H=>∃ (i:Nat),∃ base,i+m=kz.length∧kz.all YZ=(kz.drop i).all YZ∧tm=ovr base [(1,.ptr 0 4 0 0),(38,slV b 4 (Za kz)),(39,.int .i64 (kz.length:Int)),(40,.int .i64 (i:Int))]∧H=⟨[.cells 4 [[.int .i64 k,.str nm,.int .i64 s,slV b 4 (Za kz)]],.cells 4 [[.str sn,.int .i64 sl,.int .i64 sm,.int .i64 sk]]],0,[],0⟩)
    (fun m tm H hI=>Wp.drop ?_) kz.length _ _ ⟨0,_,by omega,by simp,Zf ⟨rfl,rfl,Ze (by rw [Zb]),rfl,trivial⟩,rfl⟩
   obtain ⟨i,base,hi,hall,rfl,rfl⟩:=hI
   by_cases hlt:i<kz.length
   · obtain ⟨t', ht'⟩ : ∃ t', kz[i]? = some t' := ⟨kz[i], by simp⟩
     rw [Zcf ht'] at hall
     obtain ⟨k',nm',s',b',kz'⟩:=t'
     have hj:=Zk ht'
     repeat' first|refine Jk ?_|refine Jl ?_|refine Jx ?_|refine Jt ?_|refine Jb ?_ ?_|refine Jz ?_ ?_|refine Jo ?_|intro hb
     · rw [hR,if_pos ⟨hsk,by rw [hall];simp at hb;simp [YZ,hb]⟩]
     · rw [hR,if_pos ⟨hsk,by rw [hall];simp at hb;simp [YZ,hb]⟩]
     · have hA : YZ (Tm.mk k' nm' s' b' kz') = true := by
         have h1:= ‹(k'==3)=false›
         have h2:= ‹(s' != 1)=false›
         simp at h1 h2
         simp [YZ,h1,h2]
       rw [hA,Bool.true_and] at hall
       exact DropQ.go [(1,.ptr 0 4 0 0),(38,slV b 4 (Za kz)),(39,.int .i64 (kz.length:Int)),(40,.int .i64 ((i+1:Nat):Int))] ⟨rfl,rfl,rfl,Ze (Zd (n:=i+1) (by omega)),trivial⟩
        (by simp [Zh,under]) rfl (by simp [YJ,ZM,Zh,under]) (LoopI.go (m-1) (by omega) ⟨i+1,_,by omega,hall,rfl,rfl⟩)
     · exfalso;simp at hb;omega
   · have e : i = kz.length := by omega
     subst e
     repeat' first|refine Jl ?_|refine Jz ?_ ?_|refine Jo ?_|intro hb
     · exfalso;simp at hb
     have hall:kz.all YZ=true:=by rw [hall,List.drop_length];rfl
     rw [if_neg (by simp [hall])] at hR
     refine Wp.while (fun m tm H=>∃ (i:Nat),∃ base,i+m=kz.length∧R=thL (kz.drop i)∧tm=ovr base [(62,slV b 4 (Za kz)),(63,.int .i64 (kz.length:Int)),(64,.int .i64 (i:Int))]∧H=⟨[.cells 4 [[.int .i64 k,.str nm,.int .i64 s,slV b 4 (Za kz)]],.cells 4 [[.str sn,.int .i64 sl,.int .i64 sm,.int .i64 sk]]],0,[],0⟩)
      (fun m tm H hI=>Wp.drop ?_) kz.length _ _ ⟨0,_,by omega,by simpa using hR,Zf ⟨rfl,Ze (by rw [Zb]),rfl,trivial⟩,rfl⟩
     clear hR
     obtain ⟨i,base,hi,hR,rfl,rfl⟩:=hI
     by_cases hlt:i<kz.length
     · obtain ⟨t', ht'⟩ : ∃ t', kz[i]? = some t' := ⟨kz[i], by simp⟩
       have hm:t'∈kz:=List.mem_of_getElem? ht'
       have hc:=ih t' hm
       obtain ⟨e1,he1⟩:∃ e1,t'.th=e1:=⟨_,rfl⟩
       rw [he1] at hc
       rw [U7 ht' he1] at hR
       obtain ⟨k',nm',s',b',kz'⟩:=t'
       have hj:=Zk ht'
       repeat' first|refine Jc (hc _) ?_|refine Jx ?_|refine Jb ?_ ?_|refine Jz ?_ ?_|refine Jo ?_|intro hb
       · rw [hR,if_pos (by simpa using hb)]
       · rw [if_neg (by simpa using hb)] at hR
         exact DropQ.go [(62,slV b 4 (Za kz)),(63,.int .i64 (kz.length:Int)),(64,.int .i64 ((i+1:Nat):Int))] ⟨rfl,rfl,Ze (Zd (n:=i+1) (by omega)),trivial⟩
          (by simp [Zh,under]) rfl (by simp [YJ,ZM,Zh,under]) (LoopI.go (m-1) (by omega) ⟨i+1,_,by omega,hR,rfl,rfl⟩)
       · exfalso;first|(simp at hb;omega)|(simp at hb hlt;omega)
     · have e : i = kz.length := by omega
       subst e
       repeat' first|refine Jz ?_ ?_|refine Jo ?_|intro hb
       · exfalso;simp at hb
       · rw [hR, List.drop_length]
         simp [thL]
 · have e : nm = [110, 101, 119] := by simpa using hb
   subst e
   obtain ⟨rfl,rfl,rfl,rfl⟩:sn= [110,101,119]∧sl=1∧sm=8∧sk=2:=by
    have:YA [110,101,119]=⟨[110,101,119],1,8,2⟩:=rfl
    rw [this] at sy
    cases sy
    exact ⟨rfl,rfl,rfl,rfl⟩
   obtain ⟨a,r,rfl⟩:∃ a r,kz=a::r:=by
    cases kz with
    | nil =>
      exfalso
      have h1:= ‹decide (((Za []).length:Int)<_)=false›
      rw [Zb] at h1
      simp at h1
    | cons a r=>exact ⟨a,r,rfl⟩
   obtain ⟨ka,na,sa,ba,la⟩:=a
   have hj:=Zub (b:=b) (show (Tm.mk ka na sa ba la::r)[0]? = some (Tm.mk ka na sa ba la) from rfl)
   repeat' first|refine JJ ?_|refine Jl ?_|refine Jb ?_ ?_|refine Jo ?_|intro hb
   · rw [hR,if_pos ⟨rfl,by simp at hb;simp [WF,hb]⟩]
   · rw [if_neg (by simp at hb; simp [WF, hb])] at hR
     clear hj
     refine Wp.while (fun m tm H=>∃ (i:Nat),∃ base,i+m=(Tm.mk ka na sa ba la::r).length∧R=thL ((Tm.mk ka na sa ba la::r).drop i)∧tm=ovr base [(62,slV b 4 (Za (Tm.mk ka na sa ba la::r))),(63,.int .i64 ((Tm.mk ka na sa ba la::r).length:Int)),(64,.int .i64 (i:Int))]∧H=⟨[.cells 4 [[.int .i64 k,.str [110,101,119],.int .i64 s,slV b 4 (Za (Tm.mk ka na sa ba la::r))]],.cells 4 [[.str [110,101,119],.int .i64 1,.int .i64 8,.int .i64 2]]],0,[],0⟩)
      (fun m tm H hI=>Wp.drop ?_) (Tm.mk ka na sa ba la::r).length _ _ ⟨0,_,by omega,by simpa using hR,Zf ⟨rfl,Ze (by rw [Zb]),rfl,trivial⟩,rfl⟩
     clear hR
     obtain ⟨i,base,hi,hR,rfl,rfl⟩:=hI
     by_cases hlt:i<(Tm.mk ka na sa ba la::r).length
     · obtain ⟨t', ht'⟩ : ∃ t', (Tm.mk ka na sa ba la :: r)[i]? = some t' := ⟨(Tm.mk ka na sa ba la :: r)[i], by simp⟩
       have hm:t'∈(Tm.mk ka na sa ba la::r):=List.mem_of_getElem? ht'
       have hc:=ih t' hm
       obtain ⟨e1,he1⟩:∃ e1,t'.th=e1:=⟨_,rfl⟩
       rw [he1] at hc
       rw [U7 ht' he1] at hR
       obtain ⟨k',nm',s',b',kz'⟩:=t'
       have hj:=Zk ht'
       repeat' first|refine Jc (hc _) ?_|refine Jx ?_|refine Jb ?_ ?_|refine Jz ?_ ?_|refine Jo ?_|intro hb
       · rw [hR,if_pos (by simpa using hb)]
       · rw [if_neg (by simpa using hb)] at hR
         exact DropQ.go [(62,slV b 4 (Za (Tm.mk ka na sa ba la::r))),(63,.int .i64 ((Tm.mk ka na sa ba la::r).length:Int)),(64,.int .i64 ((i+1:Nat):Int))] ⟨rfl,rfl,Ze (Zd (n:=i+1) (by omega)),trivial⟩
          (by simp [Zh,under]) rfl (by simp [YJ,ZM,Zh,under]) (LoopI.go (m-1) (by omega) ⟨i+1,_,by omega,hR,rfl,rfl⟩)
       · exfalso;first|(simp at hb;omega)|(simp at hb hlt;omega)
     · have e : i = (Tm.mk ka na sa ba la :: r).length := by omega
       subst e
       repeat' first|refine Jz ?_ ?_|refine Jo ?_|intro hb
       · exfalso;simp at hb
       · rw [hR, List.drop_length]
         simp [thL]
 · have hR : R = thL kz := by
     rw [hR,if_neg]
     rintro ⟨h1,h2⟩
     rcases hp.1 h1 with e|e|e<;>(subst e;simp at *)
   refine Wp.while (fun m tm H=>∃ (i:Nat),∃ base,i+m=kz.length∧R=thL (kz.drop i)∧tm=ovr base [(62,slV b 4 (Za kz)),(63,.int .i64 (kz.length:Int)),(64,.int .i64 (i:Int))]∧H=⟨[.cells 4 [[.int .i64 k,.str nm,.int .i64 s,slV b 4 (Za kz)]],.cells 4 [[.str sn,.int .i64 sl,.int .i64 sm,.int .i64 sk]]],0,[],0⟩)
    (fun m tm H hI=>Wp.drop ?_) kz.length _ _ ⟨0,_,by omega,by simpa using hR,Zf ⟨rfl,Ze (by rw [Zb]),rfl,trivial⟩,rfl⟩
   clear hR
   obtain ⟨i,base,hi,hR,rfl,rfl⟩:=hI
   by_cases hlt:i<kz.length
   · obtain ⟨t', ht'⟩ : ∃ t', kz[i]? = some t' := ⟨kz[i], by simp⟩
     have hm:t'∈kz:=List.mem_of_getElem? ht'
     have hc:=ih t' hm
     obtain ⟨e1,he1⟩:∃ e1,t'.th=e1:=⟨_,rfl⟩
     rw [he1] at hc
     rw [U7 ht' he1] at hR
     obtain ⟨k',nm',s',b',kz'⟩:=t'
     have hj:=Zk ht'
     repeat' first|refine Jc (hc _) ?_|refine Jx ?_|refine Jb ?_ ?_|refine Jz ?_ ?_|refine Jo ?_|intro hb
     · rw [hR,if_pos (by simpa using hb)]
     · rw [if_neg (by simpa using hb)] at hR
       exact DropQ.go [(62,slV b 4 (Za kz)),(63,.int .i64 (kz.length:Int)),(64,.int .i64 ((i+1:Nat):Int))] ⟨rfl,rfl,Ze (Zd (n:=i+1) (by omega)),trivial⟩
        (by simp [Zh,under]) rfl (by simp [YJ,ZM,Zh,under]) (LoopI.go (m-1) (by omega) ⟨i+1,_,by omega,hR,rfl,rfl⟩)
     · exfalso;first|(simp at hb;omega)|(simp at hb hlt;omega)
   · have e : i = kz.length := by omega
     subst e
     repeat' first|refine Jz ?_ ?_|refine Jo ?_|intro hb
     · exfalso;simp at hb
     · rw [hR, List.drop_length]
       simp [thL]
theorem ZtE (ht:t.Ok) (hsz:t.size<4611686018427387000):∀ H,CallOk E0 Tryz.prog 140 [.agg t.cells] H (.int .i64 (if t.valid≠0 then t.valid else t.th)) H:=by
 have h1:=c46 ht hsz
 have h2:=Zv7 ht
 generalize t.valid=e at h1
 generalize t.th=e2 at h2
 obtain ⟨k,nm,s,b,kz⟩:=t
 refine Jw tOk fe140.ok rfl ?_
 repeat' first|refine Jc (h1 _) ?_|refine Jc (h2 _) ?_|refine Jb ?_ ?_|refine Jo ?_|intro hb
 · rw [if_pos (by simpa using hb)]
 · rw [if_neg (by simpa using hb)]
