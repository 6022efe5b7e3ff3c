/-
  The symbols of the theory, and the terms that it allows: the program's text.
-/
import Derived.Test.YtpgfeijkfmgnjaaGreatDoorTv2
set_option maxHeartbeats 0
set_option maxRecDepth 100000
namespace Go.Vm.Seat
variable {b:Bool} {kz l:List Tm} {i:Nat} {t:Tm} {e:Int} {nm:List UInt8}
open Go.Proofs
theorem ifq {a:Bool} (h:a=b):PV.bool a=PV.bool b:=by rw [h]
theorem Zku {d:UInt8}:Vh d=(Zga (Int.ofNat d.toNat)||(Znm (Int.ofNat d.toNat)||(decide ((d.toNat:Int)=95)||decide ((d.toNat:Int)=35)))):=rfl
theorem c89 (s:List UInt8) (hs:s.length≤maxLen):∀ H,CallOk E0 Tryz.prog 89 [.str s] H (.bool (Vs s)) H:=by
 refine Jw tOk fe89.ok rfl ?_
 cases s with
 | nil =>
   repeat' first|refine Jk ?_|refine Jt ?_|refine Jo ?_|fail
   all_goals first
    | rfl
    | (exfalso;simp at hb;done)
 | cons c r =>
   have hc:=ZsE (Int.ofNat c.toNat)
   obtain ⟨L,hL⟩:∃ L,L=Zga (Int.ofNat c.toNat):=⟨_,rfl⟩
   have hj:=Zpd (show (c::r)[0]? = some c from rfl)
   rw [ZbZ]
   obtain ⟨s,hss⟩:∃ s,s=c::r:=⟨_,rfl⟩
   rw [← hss] at hs hj ⊢
   have hne:s.length≠0:=by rw [hss];simp
   rw [← hL] at hc ⊢
   repeat' first|refine Jk ?_|refine Jc (hc _) ?_|refine JX ?_|refine Jt ?_|refine Jb ?_ ?_|refine Jo ?_|intro hb
   all_goals first
    | (exfalso;exact hne (by simpa using hb))
    | (refine ZaQ (.inl ?_);simp at hb;simp;omega)
    | (refine ZaQ (.inr (.inl (by simpa using hb)));done)
    | skip
   have h24:s.length≤24:=by
    have:= ‹decide (24<Int.ofNat s.length)=false›
    simp at this;omega
   have hlt:L=true:=by simpa using hb
   rw [show (decide (s.length≤24)&&(L&&s.all Vh))=s.all Vh by simp only [h24,hlt,decide_true,Bool.true_and]]
   refine Wp.while (fun m tm H=>∃ (i:Nat),∃ base,i+m=s.length∧(s.take i).all Vh=true∧tm=ovr base [(0,.str s),(3,.int .i64 (i:Int))]∧H=⟨[],0,[],0⟩)
    (fun m tm H hI=>?_) s.length _ _ ⟨0,_,by omega,by simp,Zi ⟨rfl,rfl,trivial⟩,rfl⟩
   clear hc hj
   obtain ⟨i,base,hi,hall,rfl,rfl⟩:=hI
   by_cases hlt2:i<s.length
   · obtain ⟨d, hd⟩ : ∃ d, s[i]? = some d := ⟨s[i], by simp⟩
     have hj:=Zpd hd
     have hc:=ZsE (Int.ofNat d.toNat)
     have hc2:=Zvo (Int.ofNat d.toNat)
     have hp:=Zku (d:=d)
     generalize Zga (Int.ofNat d.toNat)=D1 at hc hp
     generalize Znm (Int.ofNat d.toNat)=D2 at hc2 hp
     repeat' first|refine Jk ?_|refine Jc (hc _) ?_|refine Jc (hc2 _) ?_|refine JX ?_|refine Jt ?_|refine Jb ?_ ?_|refine Jo ?_|intro hb
     all_goals first
      | (refine LoopI.go (m-1) (by omega) ⟨i+1,_,by omega,Zgf hd (by rw [hp];simp at hb;simp [hb]) hall,Zi ⟨rfl,Zj (Zg (n:=i+1) (by unfold maxLen at hs;omega)),trivial⟩,rfl⟩;done)
      | (exfalso;simp at hb;omega)
      | skip
     have hq:Vh d=false:=by
      rw [hp]
      clear hc hc2 hj hp hd hall hi
      simp at *
      simp [*]
     rw [Ua hd hq]
   · have e : i = s.length := by omega
     subst e
     repeat' first|refine Jt ?_|refine Jb ?_ ?_|refine Jo ?_|intro hb
     · exfalso;simp at hb
     · rw [← hall,List.take_length]
theorem ZtR (k:Int) (nm:List UInt8) (s:Int) (b:Bool) (kz:List Tm) (hn:nm.length≤maxLen):∀ H,CallOk E0 Tryz.prog 258 [.agg [.int .i64 k,.str nm,.int .i64 s,slV b 4 (Za kz)]] H (.int .i64 (Ve k nm s kz.length)) H:=by
 have hc:=c89 nm hn
 obtain ⟨N,hN⟩:∃ N,N=Vs nm:=⟨_,rfl⟩
 rw [← hN] at hc
 refine Jw tOk fe258.ok rfl ?_
 repeat' first|refine Jk ?_|refine Jc (hc _) ?_|refine Jl ?_|refine Jt ?_|refine Jb ?_ ?_|refine Jo ?_|intro hb
 all_goals (refine Zj ?_;clear hc)
 all_goals first
  | exact (Zhz (by simp only [Zb,beq_iff_eq,bne_iff_ne,decide_eq_true_eq,decide_eq_false_iff_not,beq_eq_false_iff_ne,bne_eq_false_iff_eq] at *;omega)).symm
  | exact (ZhH (by simp only [Zb,beq_iff_eq,decide_eq_true_eq,decide_eq_false_iff_not,beq_eq_false_iff_ne,bne_eq_false_iff_eq] at *;omega) (by rw [← hN];simpa using hb)).symm
  | exact (Zjt (by simp only [Zb,beq_iff_eq,decide_eq_true_eq,decide_eq_false_iff_not,beq_eq_false_iff_ne,bne_eq_false_iff_eq] at *;omega) (by rw [← hN];simpa using ‹(!N)=false›) (by simp [Zb] at hb;omega)).symm
  | exact (Zjo (by simp only [Zb,beq_iff_eq,decide_eq_false_iff_not,beq_eq_false_iff_ne,bne_eq_false_iff_eq] at *;omega) (by rw [← hN];simpa using ‹(!N)=false›) (by simp [Zb] at hb;omega)).symm
theorem ZeD (h:l[i]? = some t) (he:t.nodes=e):XC (l.drop i)=if e≠0 then e else XC (l.drop (i+1)):=by
 rw [Z0 h];simp only [XC,he]
theorem ZtJ (ht:t.Ok):∀ H,CallOk E0 Tryz.prog 222 [.agg t.cells] H (.int .i64 t.nodes) H:=by
 induction ht with
 | @mk k nm s b kz hk hs hn hl hok ih=>
 have hc:=ZtR k nm s b kz hn
 simp only [Tm.nodes]
 generalize Ve k nm s kz.length=e at hc
 refine Jw tOk fe222.ok rfl ?_
 repeat' first|refine Jc (hc _) ?_|refine Jb ?_ ?_|refine Jo ?_|intro hb
 · have h1 : e ≠ 0 := by simpa using hb
   rw [if_pos h1]
 rw [if_neg (by simpa using hb)]
 clear hc
 refine Wp.while (fun m tm H=>∃ (i:Nat),∃ base,i+m=kz.length∧XC kz=XC (kz.drop i)∧tm=ovr base [(1,.ptr 0 4 0 0),(4,.int .i64 (i:Int))]∧H=⟨[.cells 4 [[.int .i64 k,.str nm,.int .i64 s,slV b 4 (Za kz)]]],0,[],0⟩)
  (fun m tm H hI=>?_) kz.length _ _ ⟨0,_,by omega,by simp,Zi ⟨rfl,rfl,trivial⟩,rfl⟩
 obtain ⟨i,base,hi,hgo,rfl,rfl⟩:=hI
 rw [hgo]
 unfold maxLen at hl
 by_cases hlt:i<kz.length
 · obtain ⟨t', ht'⟩ : ∃ t', kz[i]? = some t' := ⟨kz[i], by simp⟩
   have hm:t'∈kz:=List.mem_of_getElem? ht'
   have hc:=ih t' hm
   obtain ⟨e1,he1⟩:∃ e1,t'.nodes=e1:=⟨_,rfl⟩
   rw [he1] at hc
   rw [ZeD ht' he1]
   obtain ⟨k',nm',s',b',kz'⟩:=t'
   have hj:=Zn ht'
   repeat' first|refine Jc (hc _) ?_|refine Jl ?_|refine Jx ?_|refine Jb ?_ ?_|refine Jo ?_|intro hb
   · rw [if_pos (by simpa using hb)]
   · rw [if_neg (by simpa using hb)]
     exact LoopI.go (m-1) (by omega) ⟨i+1,_,by omega,rfl,Zi ⟨rfl,Zj (Zg (n:=i+1) (by omega)),trivial⟩,rfl⟩
   · exfalso;rw [Zb] at hb;simp at hb;omega
 · have e : i = kz.length := by omega
   subst e
   repeat' first|refine Jl ?_|refine Jb ?_ ?_|refine Jo ?_|intro hb
   · exfalso;rw [Zb] at hb;simp at hb
   · simp [XC]
theorem Zs2 (ht:t.Ok):t.size<4611686018427387904→∀ H,CallOk E0 Tryz.prog 223 [.agg t.cells] H (.int .i64 (t.depth:Int)) H:=by
 induction ht with
 | @mk k nm s b kz hk hs hn hl hok ih=>
 intro hsz
 simp only [Tm.size] at hsz
 have hdl:=Zam kz
 simp only [Tm.depth]
 refine Jw tOk fe223.ok rfl ?_
 repeat' first|refine Jo ?_|fail
 refine Wp.while (fun m tm H=>∃ (i:Nat),∃ base,i+m=kz.length∧tm=ovr base [(1,.ptr 0 4 0 0),(3,.int .i64 (Y9 (kz.take i):Int)),(4,.int .i64 (i:Int))]∧H=⟨[.cells 4 [[.int .i64 k,.str nm,.int .i64 s,slV b 4 (Za kz)]]],0,[],0⟩)
  (fun m tm H hI=>?_) kz.length _ _ ⟨0,_,by omega,Zi ⟨rfl,rfl,rfl,trivial⟩,rfl⟩
 obtain ⟨i,base,hi,rfl,rfl⟩:=hI
 unfold maxLen at hl
 by_cases hlt:i<kz.length
 · obtain ⟨t', ht'⟩ : ∃ t', kz[i]? = some t' := ⟨kz[i], by simp⟩
   have hm:t'∈kz:=List.mem_of_getElem? ht'
   have hle:=XB hm
   have hdt:=ZeJ ht'
   have hc:=ih t' hm (by omega)
   obtain ⟨k',nm',s',b',kz'⟩:=t'
   have hj:=Zn ht'
   repeat' first|refine Jc (hc _) ?_|refine Jl ?_|refine Jx ?_|refine Jb ?_ ?_|refine Jo ?_|intro hb
   · refine LoopI.go (m - 1) (by omega) ⟨i + 1, _, by omega, Zi ⟨rfl, Zj ?_, Zj (Zg (n := i + 1) (by omega)), trivial⟩, rfl⟩
     rw [hdt]
     split<;>omega
   · exfalso;rw [Zb] at hb;simp at hb;omega
 · have e : i = kz.length := by omega
   subst e
   repeat' first|refine Jl ?_|refine Jb ?_ ?_|refine Jo ?_|intro hb
   · exfalso;rw [Zb] at hb;simp at hb
   · refine Zj ?_
     rw [List.take_length]
     exact Zg (n:=Y9 kz+1) (by omega)
theorem ZlD (ht:t.Ok) (hsz:t.size<4611686018427387904):∀ H,CallOk E0 Tryz.prog 176 [.agg t.cells] H (.int .i64 t.valid) H:=by
 have h1:=ZtJ ht
 have h2:=c81 ht hsz
 have h3:=Zs2 ht hsz
 unfold Tm.valid
 generalize t.nodes=e at h1
 generalize t.size=n at h2
 generalize t.depth=d at h3
 obtain ⟨k,nm,s,b,kz⟩:=t
 refine Jw tOk fe176.ok rfl ?_
 repeat' first|refine Jk ?_|(apply qCl;rfl;rfl;rfl;rfl;first|exact h1 _|exact h2 _|exact h3 _)|refine Jt ?_|refine Jb ?_ ?_|refine Jo ?_|intro hb
 all_goals (refine Zj ?_;clear h1 h2 h3;simp only [bne_iff_ne,bne_eq_false_iff_eq,decide_eq_true_eq,decide_eq_false_iff_not] at *;(repeat' split)<;>omega)
theorem Zug:∀ H,CallOk E0 Tryz.prog 154 [] H (slV true 4 (Zch Zce)) H:=by
 have e:slV true 4 (Zch Zce)= .sl .none 4 (Zch Zce):=Zw _ _ _ _
 rw [e]
 exact Xs (x:=⟨154,[],.sl .none 4 (Zch Zce)⟩) tOk follows fOk zOk (fuel:=100) (k:=20) (by kernel_rfl)
theorem Qy {l:List Sym} {s:Sym} (h:l[i]? = some s):Vk nm (l.drop i)=if (s.name==nm)=true then some s else Vk nm (l.drop (i+1)):=by
 rw [Z0 h];simp only [Vk]
theorem ZrS (nm:List UInt8):∀ H,CallOk E0 Tryz.prog 110 [.str nm] H (.agg (Qw nm).cells) H:=by
 have hc:=Zug
 obtain ⟨l,hl⟩:∃ l,l=Zce:=⟨_,rfl⟩
 have hlen:l.length=21:=by rw [hl];rfl
 unfold Qw
 rw [← hl] at hc ⊢
 refine Jw tOk fe110.ok rfl ?_
 repeat' first|refine Jc (hc _) ?_|refine Jl ?_|refine Jo ?_|fail
 refine Wp.while (fun m tm H=>∃ (i:Nat),∃ base,i+m=l.length∧Vk nm l=Vk nm (l.drop i)∧tm=ovr base [(0,.str nm),(2,.ptr 0 4 0 0),(5,slV true 4 (Zch l)),(6,.int .i64 (l.length:Int)),(7,.int .i64 (i:Int))]∧H=⟨[.cells 4 [[.str [],.int .i64 0,.int .i64 0,.int .i64 0]]],0,[],0⟩)
  (fun m tm H hI=>Wp.drop ?_) l.length _ _ ⟨0,_,by omega,by simp,Zi ⟨rfl,rfl,rfl,Zj (by rw [Qg]),rfl,trivial⟩,rfl⟩
 clear hc hl
 obtain ⟨i,base,hi,hgo,rfl,rfl⟩:=hI
 rw [hgo]
 by_cases hlt:i<l.length
 · obtain ⟨s, hs⟩ : ∃ s, l[i]? = some s := ⟨l[i], by simp⟩
   rw [Qy hs]
   obtain ⟨sn,sl,sm,sk⟩:=s
   have hj:(Zch l)[i]? = some [.str sn,.int .i64 sl,.int .i64 sm,.int .i64 sk]:=ZcG hs
   repeat' first|refine Jx ?_|refine Jb ?_ ?_|refine Jz ?_ ?_|refine Jo ?_|intro hb
   · rw [if_pos (by simpa using hb)]
     rfl
   · rw [if_neg (by simpa using hb)]
     exact DropQ.go [(0,.str nm),(2,.ptr 0 4 0 0),(5,slV true 4 (Zch l)),(6,.int .i64 (l.length:Int)),(7,.int .i64 ((i+1:Nat):Int))] ⟨rfl,rfl,rfl,rfl,Zj (Zg (n:=i+1) (by omega)),trivial⟩
      (by simp [Zl,under]) rfl (by simp [Yw,ZI,under]) (LoopI.go (m-1) (by omega) ⟨i+1,_,by omega,rfl,rfl,rfl⟩)
   · exfalso;simp at hb;omega
 · have e : i = l.length := by omega
   subst e
   repeat' first|refine Jz ?_ ?_|refine Jo ?_|intro hb
   · exfalso;simp at hb
   · rw [List.drop_length]
     rfl
theorem Qe (h:l[i]? = some t) (he:t.th=e):thL (l.drop i)=if e≠0 then e else thL (l.drop (i+1)):=by
 rw [Z0 h];simp only [thL,he]
def Xb (t:Tm):Bool:=match t with| .mk k _ s _ _=> !(decide (k=3))&&decide (s=1)
theorem ZaH (h:nm≠ [110,101,119]):QU nm kz=kz.all Xb:=by
 unfold QU;rw [if_neg h];rfl
theorem Zpr (h:kz[i]? = some t):Zp E0 24 (slV b 4 (Za kz)) (.int .i64 (i:Int))=some (.fptr t.cells 0):=by
 refine Wy (E:=E0) (t:=24) (e:=26) rfl rfl rfl rfl b ?_
 obtain ⟨k,nm,s,b',kz'⟩:=t
 exact Zn h
theorem QY {p:Tm→Bool} (h:l[i]? = some t):(l.drop i).all p=(p t&&(l.drop (i+1)).all p):=by
 rw [Z0 h];rfl
theorem Ztc (ht:t.Ok):∀ H,CallOk E0 Tryz.prog 153 [.agg t.cells] H (.int .i64 t.th) H:=by
 induction ht with
 | @mk k nm s b kz hk hs hn hl hok ih=>
 have hc:=ZrS nm
 obtain ⟨R,hR⟩:∃ R,R=(Tm.mk k nm s b kz).th:=⟨_,rfl⟩
 rw [← hR]
 simp only [Tm.th] at hR
 have hp:=ZhE (nm:=nm)
 obtain ⟨sn,sl,sm,sk,sy⟩:∃ sn sl sm sk,Qw nm=⟨sn,sl,sm,sk⟩:=⟨_,_,_,_,rfl⟩
 rw [sy] at hc hR hp
 simp only [] at hR hp
 refine Jw tOk fe153.ok rfl ?_
 repeat' first|refine Jk ?_|refine Jc (hc _) ?_|refine Jl ?_|refine Jt ?_|refine Jb ?_ ?_|refine Jo ?_|intro hb
 all_goals first
  | (rw [hR,if_pos (by simpa using hb)];done)
  | (rw [hR,if_neg (by simpa using ‹(k != 3)=false›),if_pos (by simpa using hb)];done)
  | (rw [hR,if_neg (by simpa using ‹(k != 3)=false›),if_neg (by simpa using ‹((Sym.mk sn sl sm sk).kind==0)=false›),if_pos (by rw [Zb] at hb;simp at hb;omega)];done)
  | skip
 all_goals
  rw [if_neg (by simpa using ‹(k != 3)=false›),if_neg (by simpa using ‹((Sym.mk sn sl sm sk).kind==0)=false›),if_neg (by
   have h1:= ‹decide (((Za kz).length:Int)<(Sym.mk sn sl sm sk).least)=false›
   have h2:= ‹decide ((Sym.mk sn sl sm sk).most<((Za kz).length:Int))=false›
   rw [Zb] at h1 h2
   simp at h1 h2
   omega)] at hR
  clear hc
  unfold maxLen at hl
 · have e : nm = [115, 107] := by simpa using hb
   have hsk:sk=2:=hp.2 (by simp [e])
   rw [ZaH (by rw [e];simp)] at hR
   refine Wp.while (fun m tm H=>∃ (i:Nat),∃ base,i+m=kz.length∧kz.all Xb=(kz.drop i).all Xb∧tm=ovr base [(1,.ptr 0 4 0 0),(38,slV b 4 (Za kz)),(39,.int .i64 (kz.length:Int)),(40,.int .i64 (i:Int))]∧H=⟨[.cells 4 [[.int .i64 k,.str nm,.int .i64 s,slV b 4 (Za kz)]],.cells 4 [[.str sn,.int .i64 sl,.int .i64 sm,.int .i64 sk]]],0,[],0⟩)
    (fun m tm H hI=>Wp.drop ?_) kz.length _ _ ⟨0,_,by omega,by simp,Zi ⟨rfl,rfl,Zj (by rw [Zb]),rfl,trivial⟩,rfl⟩
   obtain ⟨i,base,hi,hall,rfl,rfl⟩:=hI
   by_cases hlt:i<kz.length
   · obtain ⟨t', ht'⟩ : ∃ t', kz[i]? = some t' := ⟨kz[i], by simp⟩
     rw [QY ht'] at hall
     obtain ⟨k',nm',s',b',kz'⟩:=t'
     have hj:=Zn ht'
     repeat' first|refine Jk ?_|refine Jl ?_|refine Jx ?_|refine Jt ?_|refine Jb ?_ ?_|refine Jz ?_ ?_|refine Jo ?_|intro hb
     · rw [hR,if_pos ⟨hsk,by rw [hall];simp at hb;simp [Xb,hb]⟩]
     · rw [hR,if_pos ⟨hsk,by rw [hall];simp at hb;simp [Xb,hb]⟩]
     · have hA : Xb (Tm.mk k' nm' s' b' kz') = true := by
         have h1:= ‹(k'==3)=false›
         have h2:= ‹(s' != 1)=false›
         simp at h1 h2
         simp [Xb,h1,h2]
       rw [hA,Bool.true_and] at hall
       exact DropQ.go [(1,.ptr 0 4 0 0),(38,slV b 4 (Za kz)),(39,.int .i64 (kz.length:Int)),(40,.int .i64 ((i+1:Nat):Int))] ⟨rfl,rfl,rfl,Zj (Zg (n:=i+1) (by omega)),trivial⟩
        (by simp [Zl,under]) rfl (by simp [Yw,ZI,Zl,under]) (LoopI.go (m-1) (by omega) ⟨i+1,_,by omega,hall,rfl,rfl⟩)
     · exfalso;simp at hb;omega
   · have e : i = kz.length := by omega
     subst e
     repeat' first|refine Jl ?_|refine Jz ?_ ?_|refine Jo ?_|intro hb
     · exfalso;simp at hb
     have hall:kz.all Xb=true:=by rw [hall,List.drop_length];rfl
     rw [if_neg (by simp [hall])] at hR
     refine Wp.while (fun m tm H=>∃ (i:Nat),∃ base,i+m=kz.length∧R=thL (kz.drop i)∧tm=ovr base [(62,slV b 4 (Za kz)),(63,.int .i64 (kz.length:Int)),(64,.int .i64 (i:Int))]∧H=⟨[.cells 4 [[.int .i64 k,.str nm,.int .i64 s,slV b 4 (Za kz)]],.cells 4 [[.str sn,.int .i64 sl,.int .i64 sm,.int .i64 sk]]],0,[],0⟩)
      (fun m tm H hI=>Wp.drop ?_) kz.length _ _ ⟨0,_,by omega,by simpa using hR,Zi ⟨rfl,Zj (by rw [Zb]),rfl,trivial⟩,rfl⟩
     clear hR
     obtain ⟨i,base,hi,hR,rfl,rfl⟩:=hI
     by_cases hlt:i<kz.length
     · obtain ⟨t', ht'⟩ : ∃ t', kz[i]? = some t' := ⟨kz[i], by simp⟩
       have hm:t'∈kz:=List.mem_of_getElem? ht'
       have hc:=ih t' hm
       obtain ⟨e1,he1⟩:∃ e1,t'.th=e1:=⟨_,rfl⟩
       rw [he1] at hc
       rw [Qe ht' he1] at hR
       obtain ⟨k',nm',s',b',kz'⟩:=t'
       have hj:=Zn ht'
       repeat' first|refine Jc (hc _) ?_|refine Jx ?_|refine Jb ?_ ?_|refine Jz ?_ ?_|refine Jo ?_|intro hb
       · rw [hR,if_pos (by simpa using hb)]
       · rw [if_neg (by simpa using hb)] at hR
         exact DropQ.go [(62,slV b 4 (Za kz)),(63,.int .i64 (kz.length:Int)),(64,.int .i64 ((i+1:Nat):Int))] ⟨rfl,rfl,Zj (Zg (n:=i+1) (by omega)),trivial⟩
          (by simp [Zl,under]) rfl (by simp [Yw,ZI,Zl,under]) (LoopI.go (m-1) (by omega) ⟨i+1,_,by omega,hR,rfl,rfl⟩)
       · exfalso;first|(simp at hb;omega)|(simp at hb hlt;omega)
     · have e : i = kz.length := by omega
       subst e
       repeat' first|refine Jz ?_ ?_|refine Jo ?_|intro hb
       · exfalso;simp at hb
       · rw [hR, List.drop_length]
         simp [thL]
 · have e : nm = [115, 104, 107] := by simpa using hb
   have hsk:sk=2:=hp.2 (by simp [e])
   rw [ZaH (by rw [e];simp)] at hR
   refine Wp.while (fun m tm H=>∃ (i:Nat),∃ base,i+m=kz.length∧kz.all Xb=(kz.drop i).all Xb∧tm=ovr base [(1,.ptr 0 4 0 0),(38,slV b 4 (Za kz)),(39,.int .i64 (kz.length:Int)),(40,.int .i64 (i:Int))]∧H=⟨[.cells 4 [[.int .i64 k,.str nm,.int .i64 s,slV b 4 (Za kz)]],.cells 4 [[.str sn,.int .i64 sl,.int .i64 sm,.int .i64 sk]]],0,[],0⟩)
    (fun m tm H hI=>Wp.drop ?_) kz.length _ _ ⟨0,_,by omega,by simp,Zi ⟨rfl,rfl,Zj (by rw [Zb]),rfl,trivial⟩,rfl⟩
   obtain ⟨i,base,hi,hall,rfl,rfl⟩:=hI
   by_cases hlt:i<kz.length
   · obtain ⟨t', ht'⟩ : ∃ t', kz[i]? = some t' := ⟨kz[i], by simp⟩
     rw [QY ht'] at hall
     obtain ⟨k',nm',s',b',kz'⟩:=t'
     have hj:=Zn ht'
     repeat' first|refine Jk ?_|refine Jl ?_|refine Jx ?_|refine Jt ?_|refine Jb ?_ ?_|refine Jz ?_ ?_|refine Jo ?_|intro hb
     · rw [hR,if_pos ⟨hsk,by rw [hall];simp at hb;simp [Xb,hb]⟩]
     · rw [hR,if_pos ⟨hsk,by rw [hall];simp at hb;simp [Xb,hb]⟩]
     · have hA : Xb (Tm.mk k' nm' s' b' kz') = true := by
         have h1:= ‹(k'==3)=false›
         have h2:= ‹(s' != 1)=false›
         simp at h1 h2
         simp [Xb,h1,h2]
       rw [hA,Bool.true_and] at hall
       exact DropQ.go [(1,.ptr 0 4 0 0),(38,slV b 4 (Za kz)),(39,.int .i64 (kz.length:Int)),(40,.int .i64 ((i+1:Nat):Int))] ⟨rfl,rfl,rfl,Zj (Zg (n:=i+1) (by omega)),trivial⟩
        (by simp [Zl,under]) rfl (by simp [Yw,ZI,Zl,under]) (LoopI.go (m-1) (by omega) ⟨i+1,_,by omega,hall,rfl,rfl⟩)
     · exfalso;simp at hb;omega
   · have e : i = kz.length := by omega
     subst e
     repeat' first|refine Jl ?_|refine Jz ?_ ?_|refine Jo ?_|intro hb
     · exfalso;simp at hb
     have hall:kz.all Xb=true:=by rw [hall,List.drop_length];rfl
     rw [if_neg (by simp [hall])] at hR
     refine Wp.while (fun m tm H=>∃ (i:Nat),∃ base,i+m=kz.length∧R=thL (kz.drop i)∧tm=ovr base [(62,slV b 4 (Za kz)),(63,.int .i64 (kz.length:Int)),(64,.int .i64 (i:Int))]∧H=⟨[.cells 4 [[.int .i64 k,.str nm,.int .i64 s,slV b 4 (Za kz)]],.cells 4 [[.str sn,.int .i64 sl,.int .i64 sm,.int .i64 sk]]],0,[],0⟩)
      (fun m tm H hI=>Wp.drop ?_) kz.length _ _ ⟨0,_,by omega,by simpa using hR,Zi ⟨rfl,Zj (by rw [Zb]),rfl,trivial⟩,rfl⟩
     clear hR
     obtain ⟨i,base,hi,hR,rfl,rfl⟩:=hI
     by_cases hlt:i<kz.length
     · obtain ⟨t', ht'⟩ : ∃ t', kz[i]? = some t' := ⟨kz[i], by simp⟩
       have hm:t'∈kz:=List.mem_of_getElem? ht'
       have hc:=ih t' hm
       obtain ⟨e1,he1⟩:∃ e1,t'.th=e1:=⟨_,rfl⟩
       rw [he1] at hc
       rw [Qe ht' he1] at hR
       obtain ⟨k',nm',s',b',kz'⟩:=t'
       have hj:=Zn ht'
       repeat' first|refine Jc (hc _) ?_|refine Jx ?_|refine Jb ?_ ?_|refine Jz ?_ ?_|refine Jo ?_|intro hb
       · rw [hR,if_pos (by simpa using hb)]
       · rw [if_neg (by simpa using hb)] at hR
         exact DropQ.go [(62,slV b 4 (Za kz)),(63,.int .i64 (kz.length:Int)),(64,.int .i64 ((i+1:Nat):Int))] ⟨rfl,rfl,Zj (Zg (n:=i+1) (by omega)),trivial⟩
          (by simp [Zl,under]) rfl (by simp [Yw,ZI,Zl,under]) (LoopI.go (m-1) (by omega) ⟨i+1,_,by omega,hR,rfl,rfl⟩)
       · exfalso;first|(simp at hb;omega)|(simp at hb hlt;omega)
     · have e : i = kz.length := by omega
       subst e
       repeat' first|refine Jz ?_ ?_|refine Jo ?_|intro hb
       · exfalso;simp at hb
       · rw [hR, List.drop_length]
         simp [thL]
 · have e : nm = [110, 101, 119] := by simpa using hb
   subst e
   obtain ⟨rfl,rfl,rfl,rfl⟩:sn= [110,101,119]∧sl=1∧sm=8∧sk=2:=by
    have:Qw [110,101,119]=⟨[110,101,119],1,8,2⟩:=rfl
    rw [this] at sy
    cases sy
    exact ⟨rfl,rfl,rfl,rfl⟩
   obtain ⟨a,r,rfl⟩:∃ a r,kz=a::r:=by
    cases kz with
    | nil =>
      exfalso
      have h1:= ‹decide (((Za []).length:Int)<_)=false›
      rw [Zb] at h1
      simp at h1
    | cons a r=>exact ⟨a,r,rfl⟩
   obtain ⟨ka,na,sa,ba,la⟩:=a
   have hj:=Zpr (b:=b) (show (Tm.mk ka na sa ba la::r)[0]? = some (Tm.mk ka na sa ba la) from rfl)
   repeat' first|refine JJ ?_|refine Jl ?_|refine Jb ?_ ?_|refine Jo ?_|intro hb
   · rw [hR,if_pos ⟨rfl,by simp at hb;simp [QU,hb]⟩]
   · rw [if_neg (by simp at hb; simp [QU, hb])] at hR
     clear hj
     refine Wp.while (fun m tm H=>∃ (i:Nat),∃ base,i+m=(Tm.mk ka na sa ba la::r).length∧R=thL ((Tm.mk ka na sa ba la::r).drop i)∧tm=ovr base [(62,slV b 4 (Za (Tm.mk ka na sa ba la::r))),(63,.int .i64 ((Tm.mk ka na sa ba la::r).length:Int)),(64,.int .i64 (i:Int))]∧H=⟨[.cells 4 [[.int .i64 k,.str [110,101,119],.int .i64 s,slV b 4 (Za (Tm.mk ka na sa ba la::r))]],.cells 4 [[.str [110,101,119],.int .i64 1,.int .i64 8,.int .i64 2]]],0,[],0⟩)
      (fun m tm H hI=>Wp.drop ?_) (Tm.mk ka na sa ba la::r).length _ _ ⟨0,_,by omega,by simpa using hR,Zi ⟨rfl,Zj (by rw [Zb]),rfl,trivial⟩,rfl⟩
     clear hR
     obtain ⟨i,base,hi,hR,rfl,rfl⟩:=hI
     by_cases hlt:i<(Tm.mk ka na sa ba la::r).length
     · obtain ⟨t', ht'⟩ : ∃ t', (Tm.mk ka na sa ba la :: r)[i]? = some t' := ⟨(Tm.mk ka na sa ba la :: r)[i], by simp⟩
       have hm:t'∈(Tm.mk ka na sa ba la::r):=List.mem_of_getElem? ht'
       have hc:=ih t' hm
       obtain ⟨e1,he1⟩:∃ e1,t'.th=e1:=⟨_,rfl⟩
       rw [he1] at hc
       rw [Qe ht' he1] at hR
       obtain ⟨k',nm',s',b',kz'⟩:=t'
       have hj:=Zn ht'
       repeat' first|refine Jc (hc _) ?_|refine Jx ?_|refine Jb ?_ ?_|refine Jz ?_ ?_|refine Jo ?_|intro hb
       · rw [hR,if_pos (by simpa using hb)]
       · rw [if_neg (by simpa using hb)] at hR
         exact DropQ.go [(62,slV b 4 (Za (Tm.mk ka na sa ba la::r))),(63,.int .i64 ((Tm.mk ka na sa ba la::r).length:Int)),(64,.int .i64 ((i+1:Nat):Int))] ⟨rfl,rfl,Zj (Zg (n:=i+1) (by omega)),trivial⟩
          (by simp [Zl,under]) rfl (by simp [Yw,ZI,Zl,under]) (LoopI.go (m-1) (by omega) ⟨i+1,_,by omega,hR,rfl,rfl⟩)
       · exfalso;first|(simp at hb;omega)|(simp at hb hlt;omega)
     · have e : i = (Tm.mk ka na sa ba la :: r).length := by omega
       subst e
       repeat' first|refine Jz ?_ ?_|refine Jo ?_|intro hb
       · exfalso;simp at hb
       · rw [hR, List.drop_length]
         simp [thL]
 · have hR : R = thL kz := by
     rw [hR,if_neg]
     rintro ⟨h1,h2⟩
     rcases hp.1 h1 with e|e|e<;>(subst e;simp at *)
   refine Wp.while (fun m tm H=>∃ (i:Nat),∃ base,i+m=kz.length∧R=thL (kz.drop i)∧tm=ovr base [(62,slV b 4 (Za kz)),(63,.int .i64 (kz.length:Int)),(64,.int .i64 (i:Int))]∧H=⟨[.cells 4 [[.int .i64 k,.str nm,.int .i64 s,slV b 4 (Za kz)]],.cells 4 [[.str sn,.int .i64 sl,.int .i64 sm,.int .i64 sk]]],0,[],0⟩)
    (fun m tm H hI=>Wp.drop ?_) kz.length _ _ ⟨0,_,by omega,by simpa using hR,Zi ⟨rfl,Zj (by rw [Zb]),rfl,trivial⟩,rfl⟩
   clear hR
   obtain ⟨i,base,hi,hR,rfl,rfl⟩:=hI
   by_cases hlt:i<kz.length
   · obtain ⟨t', ht'⟩ : ∃ t', kz[i]? = some t' := ⟨kz[i], by simp⟩
     have hm:t'∈kz:=List.mem_of_getElem? ht'
     have hc:=ih t' hm
     obtain ⟨e1,he1⟩:∃ e1,t'.th=e1:=⟨_,rfl⟩
     rw [he1] at hc
     rw [Qe ht' he1] at hR
     obtain ⟨k',nm',s',b',kz'⟩:=t'
     have hj:=Zn ht'
     repeat' first|refine Jc (hc _) ?_|refine Jx ?_|refine Jb ?_ ?_|refine Jz ?_ ?_|refine Jo ?_|intro hb
     · rw [hR,if_pos (by simpa using hb)]
     · rw [if_neg (by simpa using hb)] at hR
       exact DropQ.go [(62,slV b 4 (Za kz)),(63,.int .i64 (kz.length:Int)),(64,.int .i64 ((i+1:Nat):Int))] ⟨rfl,rfl,Zj (Zg (n:=i+1) (by omega)),trivial⟩
        (by simp [Zl,under]) rfl (by simp [Yw,ZI,Zl,under]) (LoopI.go (m-1) (by omega) ⟨i+1,_,by omega,hR,rfl,rfl⟩)
     · exfalso;first|(simp at hb;omega)|(simp at hb hlt;omega)
   · have e : i = kz.length := by omega
     subst e
     repeat' first|refine Jz ?_ ?_|refine Jo ?_|intro hb
     · exfalso;simp at hb
     · rw [hR, List.drop_length]
       simp [thL]
theorem Zsm (ht:t.Ok) (hsz:t.size<4611686018427387000):∀ H,CallOk E0 Tryz.prog 107 [.agg t.cells] H (.int .i64 (if t.valid≠0 then t.valid else t.th)) H:=by
 have h1:=c41 ht hsz
 have h2:=Ztc ht
 generalize t.valid=e at h1
 generalize t.th=e2 at h2
 obtain ⟨k,nm,s,b,kz⟩:=t
 refine Jw tOk fe107.ok rfl ?_
 repeat' first|refine Jc (h1 _) ?_|refine Jc (h2 _) ?_|refine Jb ?_ ?_|refine Jo ?_|intro hb
 · rw [if_pos (by simpa using hb)]
 · rw [if_neg (by simpa using hb)]
theorem ZiA {e:Bool} (h:l[i]? = some t) (he:t.fre=e):ZgD (l.drop i)=(e&&ZgD (l.drop (i+1))):=by
 rw [Z0 h];simp only [ZgD,he]
theorem ZuX (nm:List UInt8):∀ H,CallOk E0 Tryz.prog 109 [.str nm] H (.bool (ZnB nm)) H:=by
 have hc:=ZrS nm
 unfold ZnB ZnO
 generalize Qw nm=y at hc
 obtain ⟨sn,sl,sm,sk⟩:=y
 refine Jw tOk fe109.ok rfl ?_
 repeat' first|refine Jc (hc _) ?_|refine Jt ?_|refine Jb ?_ ?_|refine Jo ?_|intro hb
 all_goals (refine ifq ?_;clear hc;simp_all)
theorem Zup (ht:t.Ok):∀ H,CallOk E0 Tryz.prog 108 [.agg t.cells,.fn 109 []] H (.bool t.fre) H:=by
 induction ht with
 | @mk k nm s b kz hk hs hn hl hok ih=>
 have hc:=ZuX nm
 simp only [Tm.fre]
 generalize ZnB nm=e at hc
 refine Jw tOk fe108.ok rfl ?_
 repeat' first|refine Jk ?_|refine Jc (hc _) ?_|refine Jl ?_|refine Jt ?_|refine Jb ?_ ?_|refine Jo ?_|intro hb
 · have h1 := ‹(k == 3) = true›
   simp at h1 hb
   simp [h1,hb]
 all_goals
  have he:(if k=3 then e else true)=true:=by
   first
    | (have h1:= ‹(k==3)=true›;simp at h1 hb;simp [h1,hb];done)
    | (simp at hb;simp [hb];done)
  rw [he,Bool.true_and]
  clear hc
  unfold maxLen at hl
  refine Wp.while (fun m tm H=>∃ (i:Nat),∃ base,i+m=kz.length∧ZgD kz=ZgD (kz.drop i)∧tm=ovr base [(1,.fn 109 []),(18,slV b 4 (Za kz)),(19,.int .i64 (kz.length:Int)),(20,.int .i64 (i:Int))]∧H=⟨[.cells 4 [[.int .i64 k,.str nm,.int .i64 s,slV b 4 (Za kz)]]],0,[],0⟩)
   (fun m tm H hI=>Wp.drop ?_) kz.length _ _ ⟨0,_,by omega,by simp,Zi ⟨rfl,rfl,Zj (by rw [Zb]),rfl,trivial⟩,rfl⟩
  obtain ⟨i,base,hi,hgo,rfl,rfl⟩:=hI
  rw [hgo]
  by_cases hlt:i<kz.length
  · obtain ⟨t', ht'⟩ : ∃ t', kz[i]? = some t' := ⟨kz[i], by simp⟩
    have hm:t'∈kz:=List.mem_of_getElem? ht'
    have hc:=ih t' hm
    obtain ⟨e1,he1⟩:∃ e1,t'.fre=e1:=⟨_,rfl⟩
    rw [he1] at hc
    rw [ZiA ht' he1]
    obtain ⟨k',nm',s',b',kz'⟩:=t'
    have hj:=Zn ht'
    repeat' first|refine Jc (hc _) ?_|refine Jx ?_|refine Jt ?_|refine Jb ?_ ?_|refine Jz ?_ ?_|refine Jo ?_|intro hb
    · simp at hb;simp [hb]
    · have h1 : e1 = true := by simpa using hb
      rw [h1,Bool.true_and]
      exact DropQ.go [(1,.fn 109 []),(18,slV b 4 (Za kz)),(19,.int .i64 (kz.length:Int)),(20,.int .i64 ((i+1:Nat):Int))] ⟨rfl,rfl,rfl,Zj (Zg (n:=i+1) (by omega)),trivial⟩
       (by simp [Zl,under,ZI]) rfl (by simp [Yw,ZI,Zl,under]) (LoopI.go (m-1) (by omega) ⟨i+1,_,by omega,rfl,rfl,rfl⟩)
    · exfalso;simp at hb;omega
  · have e : i = kz.length := by omega
    subst e
    repeat' first|refine Jt ?_|refine Jz ?_ ?_|refine Jo ?_|intro hb
    · exfalso;simp at hb
    · simp [ZgD]
theorem c72 (ht:t.Ok) (hsz:t.size<4611686018427387000):∀ H,CallOk E0 Tryz.prog 72 [.agg t.cells] H (.bool (decide (t.valid=0∧t.th=0)&&t.fre)) H:=by
 have h1:=Zsm ht hsz
 have h2:=Zup ht
 generalize t.fre=f at h2
 have he:decide (t.valid=0∧t.th=0)=decide ((if t.valid≠0 then t.valid else t.th)=0):=by
  congr 1;apply propext
  split<;>omega
 rw [he]
 clear he
 generalize (if t.valid≠0 then t.valid else t.th)=e at h1
 obtain ⟨k,nm,s,b,kz⟩:=t
 refine Jw tOk fe72.ok rfl ?_
 repeat' first|refine Jk ?_|refine Jc (h1 _) ?_|refine Jc (h2 _) ?_|refine Jt ?_|refine Jb ?_ ?_|refine Jo ?_|intro hb
 all_goals (refine ifq ?_;clear h1 h2;simp_all)
