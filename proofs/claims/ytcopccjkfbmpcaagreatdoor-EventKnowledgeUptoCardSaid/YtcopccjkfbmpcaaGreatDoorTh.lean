/-
  The symbols of the theory, and the terms that it allows: the program's text.
-/
import Derived.Test.YtcopccjkfbmpcaaGreatDoorTv2
set_option maxHeartbeats 0
set_option maxRecDepth 100000
namespace Go.Vm.Seat
variable {b:Bool} {kz l:List Tm} {i:Nat} {t:Tm} {e:Int} {nm:List UInt8}
open Go.Proofs
theorem ifq {a:Bool} (h:a=b):PV.bool a=PV.bool b:=by rw [h]
theorem Zj6 {d:UInt8}:WG d=(Zew (Int.ofNat d.toNat)||(ZmA (Int.ofNat d.toNat)||(decide ((d.toNat:Int)=95)||decide ((d.toNat:Int)=35)))):=rfl
theorem c59 (s:List UInt8) (hs:s.length≤maxLen):∀ H,CallOk E0 Tryz.prog 59 [.str s] H (.bool (XA s)) H:=by
 refine Jw tOk fe59.ok rfl ?_
 cases s with
 | nil =>
   repeat' first|refine Jk ?_|refine Jt ?_|refine Jo ?_|fail
   all_goals first
    | rfl
    | (exfalso;simp at hb;done)
 | cons c r =>
   have hc:=c93 (Int.ofNat c.toNat)
   obtain ⟨L,hL⟩:∃ L,L=Zew (Int.ofNat c.toNat):=⟨_,rfl⟩
   have hj:=Zn3 (show (c::r)[0]? = some c from rfl)
   rw [Za7]
   obtain ⟨s,hss⟩:∃ s,s=c::r:=⟨_,rfl⟩
   rw [← hss] at hs hj ⊢
   have hne:s.length≠0:=by rw [hss];simp
   rw [← hL] at hc ⊢
   repeat' first|refine Jk ?_|refine Jc (hc _) ?_|refine JX ?_|refine Jt ?_|refine Jb ?_ ?_|refine Jo ?_|intro hb
   all_goals first
    | (exfalso;exact hne (by simpa using hb))
    | (refine Zab (.inl ?_);simp at hb;simp;omega)
    | (refine Zab (.inr (.inl (by simpa using hb)));done)
    | skip
   have h24:s.length≤24:=by
    have:= ‹decide (24<Int.ofNat s.length)=false›
    simp at this;omega
   have hlt:L=true:=by simpa using hb
   rw [show (decide (s.length≤24)&&(L&&s.all WG))=s.all WG by simp only [h24,hlt,decide_true,Bool.true_and]]
   refine Wp.while (fun m tm H=>∃ (i:Nat),∃ base,i+m=s.length∧(s.take i).all WG=true∧tm=ovr base [(0,.str s),(3,.int .i64 (i:Int))]∧H=⟨[],0,[],0⟩)
    (fun m tm H hI=>?_) s.length _ _ ⟨0,_,by omega,by simp,Zf ⟨rfl,rfl,trivial⟩,rfl⟩
   clear hc hj
   obtain ⟨i,base,hi,hall,rfl,rfl⟩:=hI
   by_cases hlt2:i<s.length
   · obtain ⟨d, hd⟩ : ∃ d, s[i]? = some d := ⟨s[i], by simp⟩
     have hj:=Zn3 hd
     have hc:=c93 (Int.ofNat d.toNat)
     have hc2:=c94 (Int.ofNat d.toNat)
     have hp:=Zj6 (d:=d)
     generalize Zew (Int.ofNat d.toNat)=D1 at hc hp
     generalize ZmA (Int.ofNat d.toNat)=D2 at hc2 hp
     repeat' first|refine Jk ?_|refine Jc (hc _) ?_|refine Jc (hc2 _) ?_|refine JX ?_|refine Jt ?_|refine Jb ?_ ?_|refine Jo ?_|intro hb
     all_goals first
      | (refine LoopI.go (m-1) (by omega) ⟨i+1,_,by omega,ZeR hd (by rw [hp];simp at hb;simp [hb]) hall,Zf ⟨rfl,Ze (Zd (n:=i+1) (by unfold maxLen at hs;omega)),trivial⟩,rfl⟩;done)
      | (exfalso;simp at hb;omega)
      | skip
     have hq:WG d=false:=by
      rw [hp]
      clear hc hc2 hj hp hd hall hi
      simp at *
      simp [*]
     rw [VH hd hq]
   · have e : i = s.length := by omega
     subst e
     repeat' first|refine Jt ?_|refine Jb ?_ ?_|refine Jo ?_|intro hb
     · exfalso;simp at hb
     · rw [← hall,List.take_length]
theorem Zq8 (k:Int) (nm:List UInt8) (s:Int) (b:Bool) (kz:List Tm) (hn:nm.length≤maxLen):∀ H,CallOk E0 Tryz.prog 184 [.agg [.int .i64 k,.str nm,.int .i64 s,slV b 4 (Za kz)]] H (.int .i64 (XR k nm s kz.length)) H:=by
 have hc:=c59 nm hn
 obtain ⟨N,hN⟩:∃ N,N=XA nm:=⟨_,rfl⟩
 rw [← hN] at hc
 refine Jw tOk fe184.ok rfl ?_
 repeat' first|refine Jk ?_|refine Jc (hc _) ?_|refine Jl ?_|refine Jt ?_|refine Jb ?_ ?_|refine Jo ?_|intro hb
 all_goals (refine Ze ?_;clear hc)
 all_goals first
  | exact (Zhe (by simp only [Zb,beq_iff_eq,bne_iff_ne,decide_eq_true_eq,decide_eq_false_iff_not,beq_eq_false_iff_ne,bne_eq_false_iff_eq] at *;omega)).symm
  | exact (Zg1 (by simp only [Zb,beq_iff_eq,decide_eq_true_eq,decide_eq_false_iff_not,beq_eq_false_iff_ne,bne_eq_false_iff_eq] at *;omega) (by rw [← hN];simpa using hb)).symm
  | exact (ZiF (by simp only [Zb,beq_iff_eq,decide_eq_true_eq,decide_eq_false_iff_not,beq_eq_false_iff_ne,bne_eq_false_iff_eq] at *;omega) (by rw [← hN];simpa using ‹(!N)=false›) (by simp [Zb] at hb;omega)).symm
  | exact (Zgx (by simp only [Zb,beq_iff_eq,decide_eq_false_iff_not,beq_eq_false_iff_ne,bne_eq_false_iff_eq] at *;omega) (by rw [← hN];simpa using ‹(!N)=false›) (by simp [Zb] at hb;omega)).symm
theorem Zes (h:l[i]? = some t) (he:t.nodes=e):YR (l.drop i)=if e≠0 then e else YR (l.drop (i+1)):=by
 rw [Zu h];simp only [YR,he]
theorem Zsz (ht:t.Ok):∀ H,CallOk E0 Tryz.prog 155 [.agg t.cells] H (.int .i64 t.nodes) H:=by
 induction ht with
 | @mk k nm s b kz hk hs hn hl hok ih=>
 have hc:=Zq8 k nm s b kz hn
 simp only [Tm.nodes]
 generalize XR k nm s kz.length=e at hc
 refine Jw tOk fe155.ok rfl ?_
 repeat' first|refine Jc (hc _) ?_|refine Jb ?_ ?_|refine Jo ?_|intro hb
 · have h1 : e ≠ 0 := by simpa using hb
   rw [if_pos h1]
 rw [if_neg (by simpa using hb)]
 clear hc
 refine Wp.while (fun m tm H=>∃ (i:Nat),∃ base,i+m=kz.length∧YR kz=YR (kz.drop i)∧tm=ovr base [(1,.ptr 0 4 0 0),(4,.int .i64 (i:Int))]∧H=⟨[.cells 4 [[.int .i64 k,.str nm,.int .i64 s,slV b 4 (Za kz)]]],0,[],0⟩)
  (fun m tm H hI=>?_) kz.length _ _ ⟨0,_,by omega,by simp,Zf ⟨rfl,rfl,trivial⟩,rfl⟩
 obtain ⟨i,base,hi,hgo,rfl,rfl⟩:=hI
 rw [hgo]
 unfold maxLen at hl
 by_cases hlt:i<kz.length
 · obtain ⟨t', ht'⟩ : ∃ t', kz[i]? = some t' := ⟨kz[i], by simp⟩
   have hm:t'∈kz:=List.mem_of_getElem? ht'
   have hc:=ih t' hm
   obtain ⟨e1,he1⟩:∃ e1,t'.nodes=e1:=⟨_,rfl⟩
   rw [he1] at hc
   rw [Zes ht' he1]
   obtain ⟨k',nm',s',b',kz'⟩:=t'
   have hj:=Zk ht'
   repeat' first|refine Jc (hc _) ?_|refine Jl ?_|refine Jx ?_|refine Jb ?_ ?_|refine Jo ?_|intro hb
   · rw [if_pos (by simpa using hb)]
   · rw [if_neg (by simpa using hb)]
     exact LoopI.go (m-1) (by omega) ⟨i+1,_,by omega,rfl,Zf ⟨rfl,Ze (Zd (n:=i+1) (by omega)),trivial⟩,rfl⟩
   · exfalso;rw [Zb] at hb;simp at hb;omega
 · have e : i = kz.length := by omega
   subst e
   repeat' first|refine Jl ?_|refine Jb ?_ ?_|refine Jo ?_|intro hb
   · exfalso;rw [Zb] at hb;simp at hb
   · simp [YR]
theorem Zr6 (ht:t.Ok):t.size<4611686018427387904→∀ H,CallOk E0 Tryz.prog 156 [.agg t.cells] H (.int .i64 (t.depth:Int)) H:=by
 induction ht with
 | @mk k nm s b kz hk hs hn hl hok ih=>
 intro hsz
 simp only [Tm.size] at hsz
 have hdl:=Zat kz
 simp only [Tm.depth]
 refine Jw tOk fe156.ok rfl ?_
 repeat' first|refine Jo ?_|fail
 refine Wp.while (fun m tm H=>∃ (i:Nat),∃ base,i+m=kz.length∧tm=ovr base [(1,.ptr 0 4 0 0),(3,.int .i64 (YF (kz.take i):Int)),(4,.int .i64 (i:Int))]∧H=⟨[.cells 4 [[.int .i64 k,.str nm,.int .i64 s,slV b 4 (Za kz)]]],0,[],0⟩)
  (fun m tm H hI=>?_) kz.length _ _ ⟨0,_,by omega,Zf ⟨rfl,rfl,rfl,trivial⟩,rfl⟩
 obtain ⟨i,base,hi,rfl,rfl⟩:=hI
 unfold maxLen at hl
 by_cases hlt:i<kz.length
 · obtain ⟨t', ht'⟩ : ∃ t', kz[i]? = some t' := ⟨kz[i], by simp⟩
   have hm:t'∈kz:=List.mem_of_getElem? ht'
   have hle:=Xu hm
   have hdt:=ZdQ ht'
   have hc:=ih t' hm (by omega)
   obtain ⟨k',nm',s',b',kz'⟩:=t'
   have hj:=Zk ht'
   repeat' first|refine Jc (hc _) ?_|refine Jl ?_|refine Jx ?_|refine Jb ?_ ?_|refine Jo ?_|intro hb
   · refine LoopI.go (m - 1) (by omega) ⟨i + 1, _, by omega, Zf ⟨rfl, Ze ?_, Ze (Zd (n := i + 1) (by omega)), trivial⟩, rfl⟩
     rw [hdt]
     split<;>omega
   · exfalso;rw [Zb] at hb;simp at hb;omega
 · have e : i = kz.length := by omega
   subst e
   repeat' first|refine Jl ?_|refine Jb ?_ ?_|refine Jo ?_|intro hb
   · exfalso;rw [Zb] at hb;simp at hb
   · refine Ze ?_
     rw [List.take_length]
     exact Zd (n:=YF kz+1) (by omega)
theorem Zk9 (ht:t.Ok) (hsz:t.size<4611686018427387904):∀ H,CallOk E0 Tryz.prog 133 [.agg t.cells] H (.int .i64 t.valid) H:=by
 have h1:=Zsz ht
 have h2:=ZsH ht hsz
 have h3:=Zr6 ht hsz
 unfold Tm.valid
 generalize t.nodes=e at h1
 generalize t.size=n at h2
 generalize t.depth=d at h3
 obtain ⟨k,nm,s,b,kz⟩:=t
 refine Jw tOk fe133.ok rfl ?_
 repeat' first|refine Jk ?_|(apply qCl;rfl;rfl;rfl;rfl;first|exact h1 _|exact h2 _|exact h3 _)|refine Jt ?_|refine Jb ?_ ?_|refine Jo ?_|intro hb
 all_goals (refine Ze ?_;clear h1 h2 h3;simp only [bne_iff_ne,bne_eq_false_iff_eq,decide_eq_true_eq,decide_eq_false_iff_not] at *;(repeat' split)<;>omega)
theorem Zrc:∀ H,CallOk E0 Tryz.prog 193 [] H (slV true 4 (ZbW ZaM)) H:=by
 have e:slV true 4 (ZbW ZaM)= .sl .none 4 (ZbW ZaM):=Zm _ _ _ _
 rw [e]
 exact Vh (x:=⟨193,[],.sl .none 4 (ZbW ZaM)⟩) tOk follows fOk zOk (fuel:=100) (k:=20) (by kernel_rfl)
theorem U1 {l:List Sym} {s:Sym} (h:l[i]? = some s):WJ nm (l.drop i)=if (s.name==nm)=true then some s else WJ nm (l.drop (i+1)):=by
 rw [Zu h];simp only [WJ]
theorem Zqf (nm:List UInt8):∀ H,CallOk E0 Tryz.prog 169 [.str nm] H (.agg (Yx nm).cells) H:=by
 have hc:=Zrc
 obtain ⟨l,hl⟩:∃ l,l=ZaM:=⟨_,rfl⟩
 have hlen:l.length=21:=by rw [hl];rfl
 unfold Yx
 rw [← hl] at hc ⊢
 refine Jw tOk fe169.ok rfl ?_
 repeat' first|refine Jc (hc _) ?_|refine Jl ?_|refine Jo ?_|fail
 refine Wp.while (fun m tm H=>∃ (i:Nat),∃ base,i+m=l.length∧WJ nm l=WJ nm (l.drop i)∧tm=ovr base [(0,.str nm),(2,.ptr 0 4 0 0),(5,slV true 4 (ZbW l)),(6,.int .i64 (l.length:Int)),(7,.int .i64 (i:Int))]∧H=⟨[.cells 4 [[.str [],.int .i64 0,.int .i64 0,.int .i64 0]]],0,[],0⟩)
  (fun m tm H hI=>Wp.drop ?_) l.length _ _ ⟨0,_,by omega,by simp,Zf ⟨rfl,rfl,rfl,Ze (by rw [UE]),rfl,trivial⟩,rfl⟩
 clear hc hl
 obtain ⟨i,base,hi,hgo,rfl,rfl⟩:=hI
 rw [hgo]
 by_cases hlt:i<l.length
 · obtain ⟨s, hs⟩ : ∃ s, l[i]? = some s := ⟨l[i], by simp⟩
   rw [U1 hs]
   obtain ⟨sn,sl,sm,sk⟩:=s
   have hj:(ZbW l)[i]? = some [.str sn,.int .i64 sl,.int .i64 sm,.int .i64 sk]:=Zbw hs
   repeat' first|refine Jx ?_|refine Jb ?_ ?_|refine Jz ?_ ?_|refine Jo ?_|intro hb
   · rw [if_pos (by simpa using hb)]
     rfl
   · rw [if_neg (by simpa using hb)]
     exact DropQ.go [(0,.str nm),(2,.ptr 0 4 0 0),(5,slV true 4 (ZbW l)),(6,.int .i64 (l.length:Int)),(7,.int .i64 ((i+1:Nat):Int))] ⟨rfl,rfl,rfl,rfl,Ze (Zd (n:=i+1) (by omega)),trivial⟩
      (by simp [Zj,under]) rfl (by simp [YS,ZN,under]) (LoopI.go (m-1) (by omega) ⟨i+1,_,by omega,rfl,rfl,rfl⟩)
   · exfalso;simp at hb;omega
 · have e : i = l.length := by omega
   subst e
   repeat' first|refine Jz ?_ ?_|refine Jo ?_|intro hb
   · exfalso;simp at hb
   · rw [List.drop_length]
     rfl
theorem Um (h:l[i]? = some t) (he:t.th=e):thL (l.drop i)=if e≠0 then e else thL (l.drop (i+1)):=by
 rw [Zu h];simp only [thL,he]
def YP (t:Tm):Bool:=match t with| .mk k _ s _ _=> !(decide (k=3))&&decide (s=1)
theorem QP (h:nm≠ [110,101,119]):Qm nm kz=kz.all YP:=by
 unfold Qm;rw [if_neg h];rfl
theorem ZqO (h:kz[i]? = some t):ZB E0 29 (slV b 4 (Za kz)) (.int .i64 (i:Int))=some (.fptr t.cells 0):=by
 refine X1 (E:=E0) (t:=29) (e:=48) rfl rfl rfl rfl b ?_
 obtain ⟨k,nm,s,b',kz'⟩:=t
 exact Zk h
theorem Zb8 {p:Tm→Bool} (h:l[i]? = some t):(l.drop i).all p=(p t&&(l.drop (i+1)).all p):=by
 rw [Zu h];rfl
theorem ZrI (ht:t.Ok):∀ H,CallOk E0 Tryz.prog 163 [.agg t.cells] H (.int .i64 t.th) H:=by
 induction ht with
 | @mk k nm s b kz hk hs hn hl hok ih=>
 have hc:=Zqf nm
 obtain ⟨R,hR⟩:∃ R,R=(Tm.mk k nm s b kz).th:=⟨_,rfl⟩
 rw [← hR]
 simp only [Tm.th] at hR
 have hp:=Zhh (nm:=nm)
 obtain ⟨sn,sl,sm,sk,sy⟩:∃ sn sl sm sk,Yx nm=⟨sn,sl,sm,sk⟩:=⟨_,_,_,_,rfl⟩
 rw [sy] at hc hR hp
 simp only [] at hR hp
 refine Jw tOk fe163.ok rfl ?_
 repeat' first|refine Jk ?_|refine Jc (hc _) ?_|refine Jl ?_|refine Jt ?_|refine Jb ?_ ?_|refine Jo ?_|intro hb
 all_goals first
  | (rw [hR,if_pos (by simpa using hb)];done)
  | (rw [hR,if_neg (by simpa using ‹(k != 3)=false›),if_pos (by simpa using hb)];done)
  | (rw [hR,if_neg (by simpa using ‹(k != 3)=false›),if_neg (by simpa using ‹((Sym.mk sn sl sm sk).kind==0)=false›),if_pos (by rw [Zb] at hb;simp at hb;omega)];done)
  | skip
 all_goals
  rw [if_neg (by simpa using ‹(k != 3)=false›),if_neg (by simpa using ‹((Sym.mk sn sl sm sk).kind==0)=false›),if_neg (by
   have h1:= ‹decide (((Za kz).length:Int)<(Sym.mk sn sl sm sk).least)=false›
   have h2:= ‹decide ((Sym.mk sn sl sm sk).most<((Za kz).length:Int))=false›
   rw [Zb] at h1 h2
   simp at h1 h2
   omega)] at hR
  clear hc
  unfold maxLen at hl
 · have e : nm = [115, 107] := by simpa using hb
   have hsk:sk=2:=hp.2 (by simp [e])
   rw [QP (by rw [e];simp)] at hR
   refine Wp.while (fun m tm H=>∃ (i:Nat),∃ base,i+m=kz.length∧kz.all YP=(kz.drop i).all YP∧tm=ovr base [(1,.ptr 0 4 0 0),(38,slV b 4 (Za kz)),(39,.int .i64 (kz.length:Int)),(40,.int .i64 (i:Int))]∧H=⟨[.cells 4 [[.int .i64 k,.str nm,.int .i64 s,slV b 4 (Za kz)]],.cells 4 [[.str sn,.int .i64 sl,.int .i64 sm,.int .i64 sk]]],0,[],0⟩)
    (fun m tm H hI=>Wp.drop ?_) kz.length _ _ ⟨0,_,by omega,by simp,Zf ⟨rfl,rfl,Ze (by rw [Zb]),rfl,trivial⟩,rfl⟩
   obtain ⟨i,base,hi,hall,rfl,rfl⟩:=hI
   by_cases hlt:i<kz.length
   · obtain ⟨t', ht'⟩ : ∃ t', kz[i]? = some t' := ⟨kz[i], by simp⟩
     rw [Zb8 ht'] at hall
     obtain ⟨k',nm',s',b',kz'⟩:=t'
     have hj:=Zk ht'
     repeat' first|refine Jk ?_|refine Jl ?_|refine Jx ?_|refine Jt ?_|refine Jb ?_ ?_|refine Jz ?_ ?_|refine Jo ?_|intro hb
     · rw [hR,if_pos ⟨hsk,by rw [hall];simp at hb;simp [YP,hb]⟩]
     · rw [hR,if_pos ⟨hsk,by rw [hall];simp at hb;simp [YP,hb]⟩]
     · have hA : YP (Tm.mk k' nm' s' b' kz') = true := by
         have h1:= ‹(k'==3)=false›
         have h2:= ‹(s' != 1)=false›
         simp at h1 h2
         simp [YP,h1,h2]
       rw [hA,Bool.true_and] at hall
       exact DropQ.go [(1,.ptr 0 4 0 0),(38,slV b 4 (Za kz)),(39,.int .i64 (kz.length:Int)),(40,.int .i64 ((i+1:Nat):Int))] ⟨rfl,rfl,rfl,Ze (Zd (n:=i+1) (by omega)),trivial⟩
        (by simp [Zj,under]) rfl (by simp [YS,ZN,Zj,under]) (LoopI.go (m-1) (by omega) ⟨i+1,_,by omega,hall,rfl,rfl⟩)
     · exfalso;simp at hb;omega
   · have e : i = kz.length := by omega
     subst e
     repeat' first|refine Jl ?_|refine Jz ?_ ?_|refine Jo ?_|intro hb
     · exfalso;simp at hb
     have hall:kz.all YP=true:=by rw [hall,List.drop_length];rfl
     rw [if_neg (by simp [hall])] at hR
     refine Wp.while (fun m tm H=>∃ (i:Nat),∃ base,i+m=kz.length∧R=thL (kz.drop i)∧tm=ovr base [(62,slV b 4 (Za kz)),(63,.int .i64 (kz.length:Int)),(64,.int .i64 (i:Int))]∧H=⟨[.cells 4 [[.int .i64 k,.str nm,.int .i64 s,slV b 4 (Za kz)]],.cells 4 [[.str sn,.int .i64 sl,.int .i64 sm,.int .i64 sk]]],0,[],0⟩)
      (fun m tm H hI=>Wp.drop ?_) kz.length _ _ ⟨0,_,by omega,by simpa using hR,Zf ⟨rfl,Ze (by rw [Zb]),rfl,trivial⟩,rfl⟩
     clear hR
     obtain ⟨i,base,hi,hR,rfl,rfl⟩:=hI
     by_cases hlt:i<kz.length
     · obtain ⟨t', ht'⟩ : ∃ t', kz[i]? = some t' := ⟨kz[i], by simp⟩
       have hm:t'∈kz:=List.mem_of_getElem? ht'
       have hc:=ih t' hm
       obtain ⟨e1,he1⟩:∃ e1,t'.th=e1:=⟨_,rfl⟩
       rw [he1] at hc
       rw [Um ht' he1] at hR
       obtain ⟨k',nm',s',b',kz'⟩:=t'
       have hj:=Zk ht'
       repeat' first|refine Jc (hc _) ?_|refine Jx ?_|refine Jb ?_ ?_|refine Jz ?_ ?_|refine Jo ?_|intro hb
       · rw [hR,if_pos (by simpa using hb)]
       · rw [if_neg (by simpa using hb)] at hR
         exact DropQ.go [(62,slV b 4 (Za kz)),(63,.int .i64 (kz.length:Int)),(64,.int .i64 ((i+1:Nat):Int))] ⟨rfl,rfl,Ze (Zd (n:=i+1) (by omega)),trivial⟩
          (by simp [Zj,under]) rfl (by simp [YS,ZN,Zj,under]) (LoopI.go (m-1) (by omega) ⟨i+1,_,by omega,hR,rfl,rfl⟩)
       · exfalso;first|(simp at hb;omega)|(simp at hb hlt;omega)
     · have e : i = kz.length := by omega
       subst e
       repeat' first|refine Jz ?_ ?_|refine Jo ?_|intro hb
       · exfalso;simp at hb
       · rw [hR, List.drop_length]
         simp [thL]
 · have e : nm = [115, 104, 107] := by simpa using hb
   have hsk:sk=2:=hp.2 (by simp [e])
   rw [QP (by rw [e];simp)] at hR
   refine Wp.while (fun m tm H=>∃ (i:Nat),∃ base,i+m=kz.length∧kz.all YP=(kz.drop i).all YP∧tm=ovr base [(1,.ptr 0 4 0 0),(38,slV b 4 (Za kz)),(39,.int .i64 (kz.length:Int)),(40,.int .i64 (i:Int))]∧H=⟨[.cells 4 [[.int .i64 k,.str nm,.int .i64 s,slV b 4 (Za kz)]],.cells 4 [[.str sn,.int .i64 sl,.int .i64 sm,.int .i64 sk]]],0,[],0⟩)
    (fun m tm H hI=>Wp.drop ?_) kz.length _ _ ⟨0,_,by omega,by simp,Zf ⟨rfl,rfl,Ze (by rw [Zb]),rfl,trivial⟩,rfl⟩
   obtain ⟨i,base,hi,hall,rfl,rfl⟩:=hI
   by_cases hlt:i<kz.length
   · obtain ⟨t', ht'⟩ : ∃ t', kz[i]? = some t' := ⟨kz[i], by simp⟩
     rw [Zb8 ht'] at hall
     obtain ⟨k',nm',s',b',kz'⟩:=t'
     have hj:=Zk ht'
     repeat' first|refine Jk ?_|refine Jl ?_|refine Jx ?_|refine Jt ?_|refine Jb ?_ ?_|refine Jz ?_ ?_|refine Jo ?_|intro hb
     · rw [hR,if_pos ⟨hsk,by rw [hall];simp at hb;simp [YP,hb]⟩]
     · rw [hR,if_pos ⟨hsk,by rw [hall];simp at hb;simp [YP,hb]⟩]
     · have hA : YP (Tm.mk k' nm' s' b' kz') = true := by
         have h1:= ‹(k'==3)=false›
         have h2:= ‹(s' != 1)=false›
         simp at h1 h2
         simp [YP,h1,h2]
       rw [hA,Bool.true_and] at hall
       exact DropQ.go [(1,.ptr 0 4 0 0),(38,slV b 4 (Za kz)),(39,.int .i64 (kz.length:Int)),(40,.int .i64 ((i+1:Nat):Int))] ⟨rfl,rfl,rfl,Ze (Zd (n:=i+1) (by omega)),trivial⟩
        (by simp [Zj,under]) rfl (by simp [YS,ZN,Zj,under]) (LoopI.go (m-1) (by omega) ⟨i+1,_,by omega,hall,rfl,rfl⟩)
     · exfalso;simp at hb;omega
   · have e : i = kz.length := by omega
     subst e
     repeat' first|refine Jl ?_|refine Jz ?_ ?_|refine Jo ?_|intro hb
     · exfalso;simp at hb
     have hall:kz.all YP=true:=by rw [hall,List.drop_length];rfl
     rw [if_neg (by simp [hall])] at hR
     refine Wp.while (fun m tm H=>∃ (i:Nat),∃ base,i+m=kz.length∧R=thL (kz.drop i)∧tm=ovr base [(62,slV b 4 (Za kz)),(63,.int .i64 (kz.length:Int)),(64,.int .i64 (i:Int))]∧H=⟨[.cells 4 [[.int .i64 k,.str nm,.int .i64 s,slV b 4 (Za kz)]],.cells 4 [[.str sn,.int .i64 sl,.int .i64 sm,.int .i64 sk]]],0,[],0⟩)
      (fun m tm H hI=>Wp.drop ?_) kz.length _ _ ⟨0,_,by omega,by simpa using hR,Zf ⟨rfl,Ze (by rw [Zb]),rfl,trivial⟩,rfl⟩
     clear hR
     obtain ⟨i,base,hi,hR,rfl,rfl⟩:=hI
     by_cases hlt:i<kz.length
     · obtain ⟨t', ht'⟩ : ∃ t', kz[i]? = some t' := ⟨kz[i], by simp⟩
       have hm:t'∈kz:=List.mem_of_getElem? ht'
       have hc:=ih t' hm
       obtain ⟨e1,he1⟩:∃ e1,t'.th=e1:=⟨_,rfl⟩
       rw [he1] at hc
       rw [Um ht' he1] at hR
       obtain ⟨k',nm',s',b',kz'⟩:=t'
       have hj:=Zk ht'
       repeat' first|refine Jc (hc _) ?_|refine Jx ?_|refine Jb ?_ ?_|refine Jz ?_ ?_|refine Jo ?_|intro hb
       · rw [hR,if_pos (by simpa using hb)]
       · rw [if_neg (by simpa using hb)] at hR
         exact DropQ.go [(62,slV b 4 (Za kz)),(63,.int .i64 (kz.length:Int)),(64,.int .i64 ((i+1:Nat):Int))] ⟨rfl,rfl,Ze (Zd (n:=i+1) (by omega)),trivial⟩
          (by simp [Zj,under]) rfl (by simp [YS,ZN,Zj,under]) (LoopI.go (m-1) (by omega) ⟨i+1,_,by omega,hR,rfl,rfl⟩)
       · exfalso;first|(simp at hb;omega)|(simp at hb hlt;omega)
     · have e : i = kz.length := by omega
       subst e
       repeat' first|refine Jz ?_ ?_|refine Jo ?_|intro hb
       · exfalso;simp at hb
       · rw [hR, List.drop_length]
         simp [thL]
 · have e : nm = [110, 101, 119] := by simpa using hb
   subst e
   obtain ⟨rfl,rfl,rfl,rfl⟩:sn= [110,101,119]∧sl=1∧sm=8∧sk=2:=by
    have:Yx [110,101,119]=⟨[110,101,119],1,8,2⟩:=rfl
    rw [this] at sy
    cases sy
    exact ⟨rfl,rfl,rfl,rfl⟩
   obtain ⟨a,r,rfl⟩:∃ a r,kz=a::r:=by
    cases kz with
    | nil =>
      exfalso
      have h1:= ‹decide (((Za []).length:Int)<_)=false›
      rw [Zb] at h1
      simp at h1
    | cons a r=>exact ⟨a,r,rfl⟩
   obtain ⟨ka,na,sa,ba,la⟩:=a
   have hj:=ZqO (b:=b) (show (Tm.mk ka na sa ba la::r)[0]? = some (Tm.mk ka na sa ba la) from rfl)
   repeat' first|refine JJ ?_|refine Jl ?_|refine Jb ?_ ?_|refine Jo ?_|intro hb
   · rw [hR,if_pos ⟨rfl,by simp at hb;simp [Qm,hb]⟩]
   · rw [if_neg (by simp at hb; simp [Qm, hb])] at hR
     clear hj
     refine Wp.while (fun m tm H=>∃ (i:Nat),∃ base,i+m=(Tm.mk ka na sa ba la::r).length∧R=thL ((Tm.mk ka na sa ba la::r).drop i)∧tm=ovr base [(62,slV b 4 (Za (Tm.mk ka na sa ba la::r))),(63,.int .i64 ((Tm.mk ka na sa ba la::r).length:Int)),(64,.int .i64 (i:Int))]∧H=⟨[.cells 4 [[.int .i64 k,.str [110,101,119],.int .i64 s,slV b 4 (Za (Tm.mk ka na sa ba la::r))]],.cells 4 [[.str [110,101,119],.int .i64 1,.int .i64 8,.int .i64 2]]],0,[],0⟩)
      (fun m tm H hI=>Wp.drop ?_) (Tm.mk ka na sa ba la::r).length _ _ ⟨0,_,by omega,by simpa using hR,Zf ⟨rfl,Ze (by rw [Zb]),rfl,trivial⟩,rfl⟩
     clear hR
     obtain ⟨i,base,hi,hR,rfl,rfl⟩:=hI
     by_cases hlt:i<(Tm.mk ka na sa ba la::r).length
     · obtain ⟨t', ht'⟩ : ∃ t', (Tm.mk ka na sa ba la :: r)[i]? = some t' := ⟨(Tm.mk ka na sa ba la :: r)[i], by simp⟩
       have hm:t'∈(Tm.mk ka na sa ba la::r):=List.mem_of_getElem? ht'
       have hc:=ih t' hm
       obtain ⟨e1,he1⟩:∃ e1,t'.th=e1:=⟨_,rfl⟩
       rw [he1] at hc
       rw [Um ht' he1] at hR
       obtain ⟨k',nm',s',b',kz'⟩:=t'
       have hj:=Zk ht'
       repeat' first|refine Jc (hc _) ?_|refine Jx ?_|refine Jb ?_ ?_|refine Jz ?_ ?_|refine Jo ?_|intro hb
       · rw [hR,if_pos (by simpa using hb)]
       · rw [if_neg (by simpa using hb)] at hR
         exact DropQ.go [(62,slV b 4 (Za (Tm.mk ka na sa ba la::r))),(63,.int .i64 ((Tm.mk ka na sa ba la::r).length:Int)),(64,.int .i64 ((i+1:Nat):Int))] ⟨rfl,rfl,Ze (Zd (n:=i+1) (by omega)),trivial⟩
          (by simp [Zj,under]) rfl (by simp [YS,ZN,Zj,under]) (LoopI.go (m-1) (by omega) ⟨i+1,_,by omega,hR,rfl,rfl⟩)
       · exfalso;first|(simp at hb;omega)|(simp at hb hlt;omega)
     · have e : i = (Tm.mk ka na sa ba la :: r).length := by omega
       subst e
       repeat' first|refine Jz ?_ ?_|refine Jo ?_|intro hb
       · exfalso;simp at hb
       · rw [hR, List.drop_length]
         simp [thL]
 · have hR : R = thL kz := by
     rw [hR,if_neg]
     rintro ⟨h1,h2⟩
     rcases hp.1 h1 with e|e|e<;>(subst e;simp at *)
   refine Wp.while (fun m tm H=>∃ (i:Nat),∃ base,i+m=kz.length∧R=thL (kz.drop i)∧tm=ovr base [(62,slV b 4 (Za kz)),(63,.int .i64 (kz.length:Int)),(64,.int .i64 (i:Int))]∧H=⟨[.cells 4 [[.int .i64 k,.str nm,.int .i64 s,slV b 4 (Za kz)]],.cells 4 [[.str sn,.int .i64 sl,.int .i64 sm,.int .i64 sk]]],0,[],0⟩)
    (fun m tm H hI=>Wp.drop ?_) kz.length _ _ ⟨0,_,by omega,by simpa using hR,Zf ⟨rfl,Ze (by rw [Zb]),rfl,trivial⟩,rfl⟩
   clear hR
   obtain ⟨i,base,hi,hR,rfl,rfl⟩:=hI
   by_cases hlt:i<kz.length
   · obtain ⟨t', ht'⟩ : ∃ t', kz[i]? = some t' := ⟨kz[i], by simp⟩
     have hm:t'∈kz:=List.mem_of_getElem? ht'
     have hc:=ih t' hm
     obtain ⟨e1,he1⟩:∃ e1,t'.th=e1:=⟨_,rfl⟩
     rw [he1] at hc
     rw [Um ht' he1] at hR
     obtain ⟨k',nm',s',b',kz'⟩:=t'
     have hj:=Zk ht'
     repeat' first|refine Jc (hc _) ?_|refine Jx ?_|refine Jb ?_ ?_|refine Jz ?_ ?_|refine Jo ?_|intro hb
     · rw [hR,if_pos (by simpa using hb)]
     · rw [if_neg (by simpa using hb)] at hR
       exact DropQ.go [(62,slV b 4 (Za kz)),(63,.int .i64 (kz.length:Int)),(64,.int .i64 ((i+1:Nat):Int))] ⟨rfl,rfl,Ze (Zd (n:=i+1) (by omega)),trivial⟩
        (by simp [Zj,under]) rfl (by simp [YS,ZN,Zj,under]) (LoopI.go (m-1) (by omega) ⟨i+1,_,by omega,hR,rfl,rfl⟩)
     · exfalso;first|(simp at hb;omega)|(simp at hb hlt;omega)
   · have e : i = kz.length := by omega
     subst e
     repeat' first|refine Jz ?_ ?_|refine Jo ?_|intro hb
     · exfalso;simp at hb
     · rw [hR, List.drop_length]
       simp [thL]
theorem Zqp (ht:t.Ok) (hsz:t.size<4611686018427387000):∀ H,CallOk E0 Tryz.prog 140 [.agg t.cells] H (.int .i64 (if t.valid≠0 then t.valid else t.th)) H:=by
 have h1:=c46 ht hsz
 have h2:=ZrI ht
 generalize t.valid=e at h1
 generalize t.th=e2 at h2
 obtain ⟨k,nm,s,b,kz⟩:=t
 refine Jw tOk fe140.ok rfl ?_
 repeat' first|refine Jc (h1 _) ?_|refine Jc (h2 _) ?_|refine Jb ?_ ?_|refine Jo ?_|intro hb
 · rw [if_pos (by simpa using hb)]
 · rw [if_neg (by simpa using hb)]
