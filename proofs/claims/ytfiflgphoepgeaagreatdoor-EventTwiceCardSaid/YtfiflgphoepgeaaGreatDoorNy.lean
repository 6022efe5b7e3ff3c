/-
  Powers in the second text: which lists are right.
-/
import Derived.Test.YtfiflgphoepgeaaGreatDoorNt
set_option maxHeartbeats 0
set_option maxRecDepth 100000
namespace Go.Vm
def zeroT:Tm:= .mk 3 WK 0 false []
theorem ZdJ:zeroT.valid=0:=by decide
theorem Zkd:zeroT.Ok:= .mk (by decide) (by decide) (by decide) (by decide) (fun x hx=>by simp at hx)
end Go.Vm
namespace Go.Vm.Seat
variable {l:List Tm}
open Go.Proofs
theorem QT:zeroT.cells= [.int .i64 3,.str [122,101,114,111],.int .i64 0,.sl .none 4 []]:=by
 show [PV.int .i64 3,.str [122,101,114,111],.int .i64 0,slV false 4 (Za [])]=_
 rw [show slV false 4 (Za [])= .sl .none 4 [] from Zq 4]
theorem Zr7 (hl:SmL l) (hlen:l.length≤1000000) (b:Bool):∀ H,CallOk E0 Tryz.prog 182 [slV b 4 (Za l),.agg [.int .i64 3,.str [122,101,114,111],.int .i64 0,.sl .none 4 []]] H (.int .i64 (if 200<l.length then 3 else Xe l)) H:=by
 have hV:∀ t,t∈l→∀ H,CallOk E0 Tryz.prog 107 [.agg t.cells] H (.int .i64 t.valid) H:=fun t ht=>ZkQ (hl t ht).1 (by have:=(hl t ht).2;omega)
 have hZ:=ZkQ Zkd (by decide)
 rw [QT,ZdJ] at hZ
 refine Jw tOk fe182.ok rfl ?_
 by_cases h2:200<l.length
 · rw [if_pos h2]
   repeat' first|refine Jl ?_|refine Jb ?_ ?_|refine Jo ?_|intro hb
   all_goals first
    | rfl
    | (exfalso;rw [Zb] at hb;simp only [decide_eq_false_iff_not] at hb;omega)
 · rw [if_neg h2]
   repeat' first|refine Jl ?_|refine Jb ?_ ?_|refine Jo ?_|intro hb
   · exfalso;rw [Zb] at hb;simp only [decide_eq_true_eq] at hb;omega
   refine Wp.while (fun m tm H => ∃ (i : Nat) (base : TM), i + m = l.length ∧ Xe l = Xe (l.drop i) ∧
     tm=ovr base [(0,slV b 4 (Za l)),(3,.ptr 0 4 0 0),(5,.int .i64 (i:Int))]∧H=⟨[.cells 4 [[.int .i64 3,.str [122,101,114,111],.int .i64 0,.sl .none 4 []]]],0,[],0⟩)
    (fun m tm H hI=>?_) l.length _ _ ⟨0,_,by omega,by rw [List.drop_zero],Zf ⟨rfl,rfl,rfl,trivial⟩,rfl⟩
   obtain ⟨i,base,hi,hgo,rfl,rfl⟩:=hI
   rw [hgo]
   clear hb
   by_cases hlt:i<l.length
   · obtain ⟨t, ht⟩ : ∃ t, l[i]? = some t := ⟨l[i], by simp⟩
     have hc:=hV t (List.mem_of_getElem? ht)
     have hd:=QJ ht
     generalize t.valid=v at hc hd
     obtain ⟨k',nm',s',f',kz'⟩:=t
     have hj:=Zk ht
     simp only [Tm.cells] at hc
     by_cases hv:v=0
     · subst hv
       rw [if_neg (by simp)] at hd
       repeat' first|refine Jc (hc _) ?_|refine Jl ?_|refine Jx ?_|refine Jt ?_|refine Jb ?_ ?_|refine Jo ?_|intro hb
       all_goals first
        | (exfalso;simp at hb;done)
        | (exfalso;simp only [Zb,decide_eq_false_iff_not] at hb;omega)
        | exact LoopI.go (m-1) (by omega) ⟨i+1,_,by omega,by rw [hd],Zf ⟨rfl,rfl,Zd (Zc (n:=i+1) (by omega)),trivial⟩,rfl⟩
     · rw [if_pos hv] at hd
       repeat' first|refine Jc (hc _) ?_|refine Jl ?_|refine Jx ?_|refine Jb ?_ ?_|refine Jo ?_|intro hb
       all_goals first
        | (exfalso;simp at hb;done)
        | (exfalso;simp only [Zb,decide_eq_false_iff_not] at hb;omega)
        | (exfalso;simp_all;done)
        | rw [hd]
   · have e : i = l.length := by omega
     subst e
     repeat' first|refine Jc (hZ _) ?_|refine Jl ?_|refine Jb ?_ ?_|refine Jo ?_|intro hb
     · exfalso;rw [Zb] at hb;simp at hb
     · rw [List.drop_length]
       rfl
theorem ZsL (hl:∀ t,t∈l→t.Ok∧t.size≤100000) (hs:Zl l≤90000) (b:Bool):∀ H,CallOk E0 Tryz.prog 151 [slV b 4 (Za l)] H (.tup [.agg (sumG false l).1.cells,.int .i64 (sumG false l).2]) H:=by
 have hlen:=Yj l
 have hlS:SmL l:=fun t ht=>⟨(hl t ht).1,by have:=(hl t ht).2;omega⟩
 have hR:=Zr7 hlS (by omega) b
 have hZ:=Zti
 have hZ:∀ H,CallOk E0 Tryz.prog 183 [] H (.agg [.int .i64 3,.str [122,101,114,111],.int .i64 0,.sl .none 4 []]) H:=fun H=>by
  have:=hZ H
  rwa [show (Tm.mk 3 WK 0 false []).cells=_ from QT] at this
 rw [ZgJ]
 generalize (if 200<l.length then (3:Int) else Xe l)=R at hR ⊢
 by_cases hR0:R≠0
 · rw [if_pos hR0]
   simp only [Zn]
   refine Jw tOk fe151.ok (Yc _ _ _) ?_
   repeat' first|refine Jc (hZ _) ?_|refine Jc (hR _) ?_|refine Jb ?_ ?_|refine Jo ?_|intro hb
   all_goals first
    | rfl
    | (exfalso;simp_all;done)
 · have hR0 : R = 0 := Classical.not_not.1 hR0
   subst hR0
   rw [if_neg (by simp)]
   have hP:SmL (ZK l []):=hlS.sumL
   have hPs:=Uc l []
   have hPl:=Y6 l []
   simp only [Zl,List.length_nil,Nat.zero_add] at hPs hPl
   have hQ:Zdm false (ZK l [])=ZK l []:=rfl
   rw [hQ]
   have hV:∀ H,CallOk E0 Tryz.prog 107 [.agg (sumT false (ZK l [])).cells] H (.int .i64 (sumT false (ZK l [])).valid) H:=ZkQ (ZgI (fun x hx=>(hP x hx).1) (by omega)) (by
    have:=ZcC false (ZK l [])
    omega)
   have hT:=fun f=>Ztg (l:=ZK l []) (by omega) f
   generalize hU:sumT false (ZK l [])=U at hV hT ⊢
   obtain ⟨v,hv⟩:∃ v,v=U.valid:=⟨_,rfl⟩
   rw [← hv] at hV ⊢
   clear hv hU
   have hfr:=ZE 0 hNil (if v≠0 then (Tm.zero,(3:Int)) else (U,0)).1 (if v≠0 then (Tm.zero,(3:Int)) else (U,0)).2
   refine Jw tOk fe151.ok hfr ?_
   repeat' first|refine Jc (hZ _) ?_|refine Jc (hR _) ?_|refine Jt ?_|refine Jo ?_|fail
   refine Wp.while (fun m tm H => ∃ (i : Nat) (base : TM), i + m = l.length ∧
     tm=ovr base [(2,.ptr 0 4 0 0),(5,slV (flX (l.take i)) 4 (Za (ZK (l.take i) []))),(0,slV b 4 (Za l)),(6,.int .i64 (i:Int))]∧H=⟨[.cells 4 [zcT]],0,[],0⟩)
    (fun m tm H hI=>?_) l.length _ _ ⟨0,_,by omega,Zf ⟨rfl,(by rw [List.take_zero];simp only [ZK,Za,flX,List.getLast?_nil,Zh];rfl),rfl,rfl,trivial⟩,rfl⟩
   obtain ⟨i,base,hi,rfl,rfl⟩:=hI
   clear hR
   have h1:=Y6 (l.take i) []
   have h2:=ZD l i
   simp only [List.length_nil] at h1
   by_cases hlt:i<l.length
   · obtain ⟨t', ht'⟩ : ∃ t', l[i]? = some t' := ⟨l[i], by simp⟩
     have hm:t'∈l:=List.mem_of_getElem? ht'
     have h4:=ZD l (i+1)
     have h5:Zl (l.take (i+1))=Zl (l.take i)+t'.size:=by
      rw [List.take_add_one,ht',VI]
      simp [Zl]
     have hle:=ZR hm
     have hsn:=XZ [] ht'
     have hfl:=Zfi ht'
     have h3:=VZ t'
     have hc:=ZsA (hl t' hm).1 (hl t' hm).2
     have hp:=ZnN (hlS.take i).sumL (U8 (l.take i) [] trivial) (hlS t' hm) (by omega) (flX (l.take i)) t'.sumFl
     rw [← hsn, ← hfl] at hp
     clear hV hT hfr hPs hPl
     obtain ⟨k',nm',s',b',kz'⟩:=t'
     have hj:=Zk ht'
     simp only [Tm.cells] at hc
     repeat' first|refine Jc (hc _) ?_|refine Jc (hp _) ?_|refine Jl ?_|refine Jx ?_|refine Jb ?_ ?_|refine Jo ?_|intro hb
     all_goals first
      | (exfalso;simp at hb;done)
      | (exfalso;simp only [Zb,decide_eq_false_iff_not] at hb;omega)
      | exact LoopI.go (m-1) (by omega) ⟨i+1,_,by omega,Zf ⟨rfl,rfl,rfl,Zd (Zc (n:=i+1) (by omega)),trivial⟩,rfl⟩
   · have e : i = l.length := by omega
     subst e
     rw [List.take_length]
     clear hi hlt h1 h2 hPs hPl hP hl hs hlen hfr
     have hT:=hT (flX l)
     have hfx:=fun m H=>ZE m H U 0
     by_cases hv:v≠0
     · rw [if_pos hv]
       obtain ⟨k',nm',s',b',kz'⟩:=U
       simp only [Tm.cells] at hT hV
       repeat' first|refine Jc (hT _) ?_|refine Jc (hV _) ?_|refine Jl ?_|refine Jb ?_ ?_|refine Jo ?_|intro hb
       all_goals first
        | (exfalso;simp only [Zb,decide_eq_true_eq] at hb;omega)
        | (exfalso;simp_all;done)
        | (simp only [Zn];rfl)
     · rw [if_neg hv]
       obtain ⟨k',nm',s',b',kz'⟩:=U
       simp only [Tm.cells] at hT hV hfx ⊢
       repeat' first|refine Jc (hT _) ?_|refine Jc (hV _) ?_|refine Jl ?_|refine Jb ?_ ?_|refine Jo ?_|intro hb
       all_goals first
        | (exfalso;simp only [Zb,decide_eq_true_eq] at hb;omega)
        | (exfalso;simp_all;done)
        | exact hfx _ _
end Go.Vm.Seat
namespace Go.Vm
end Go.Vm
namespace Go.Vm.Seat
variable {t:Tm}
open Go.Proofs
theorem ZsB (ht:t.Ok):t.size≤100000→t.ari=true→∀ {l:List Pw} {n B:Int},Vb l→PwB B l→0≤B→B+t.size≤1000000000→l.length+t.size≤100000→(n=1∨n= -1)→∀ b H,CallOk E0 Tryz.prog 211 [slV b 5 (pwL l),.agg t.cells,.int .i64 n] H (slV (t.colFl b) 5 (pwL (t.colR n l))) H:=by
 induction ht with
 | @mk k nm s f kz hk hs hn hl hok ih=>
 intro hsz har l n B hA hP hB hBt hlen hn1 b
 have hadd:=fun (h:(Tm.mk k nm s f kz).Ok)=>Zrd (l:=l) (t:= .mk k nm s f kz) (n:=n) (hP.mono (by omega)) ⟨h,by omega⟩ (by omega) (by omega) b
 simp only [Tm.size] at hsz hBt hlen
 have hsp:=Zqo (.mk k nm s f kz)
 have hkl:=Yj kz
 rw [Tm.ari] at har
 rw [Tm.colR,Tm.colFl]
 simp only [Tm.sym,Tm.cells] at hsp ⊢
 refine Jw tOk fe211.ok (Zw _ _ _ _ _) ?_ (by simp only [ZM,YP];simp [frzG,Xr];rfl)
 by_cases he:Zab k nm=true
 · rw [if_pos he, if_pos he]
   rw [he] at hsp
   rw [if_pos he] at har
   have har:Zd1 kz=true:=by
    split at har
    · exact har
    · cases har
   have hkar:=(ZbH kz).1 har
   obtain ⟨n',hn'⟩:∃ n',n'=if nm=WJ then -n else n:=⟨_,rfl⟩
   rw [← hn']
   have hn2:n'=1∨n'= -1:=by
    rw [hn']
    split<;>omega
   have hw:IntKind.i64.wrap (0-n)= -n:=by rw [IntWalk.i64_in _ (by omega)];omega
   obtain ⟨rfl,hnm⟩:=X7 he
   clear hadd
   rcases hnm with rfl|rfl|rfl
   all_goals
    first
     | rw [if_pos rfl] at hn'
     | rw [if_neg (by decide)] at hn'
    simp only [Vi,WJ,VF] at hsp ⊢
    repeat' first|refine Jc (hsp _) ?_|refine Jt ?_|refine Jo ?_|fail
    refine Wp.while (fun m tm H => ∃ (i : Nat) (base : TM), i + m = kz.length ∧
      tm=ovr base [(0,slV (UQ (kz.take i) b) 5 (pwL (VH (kz.take i) n' l))),(2,.int .i64 n'),(4,.ptr 0 4 0 0),(7,.int .i64 (i:Int))]∧H=⟨[.cells 4 [[.int .i64 3,.str _,.int .i64 s,slV f 4 (Za kz)]]],0,[],0⟩)
     (fun m tm H hI=>?_) kz.length _ _ ⟨0,_,by omega,Zf ⟨rfl,Zd (by first|(rw [hn'];done)|(rw [hn'];exact hw)),rfl,rfl,trivial⟩,rfl⟩
    obtain ⟨i,base,hi,rfl,rfl⟩:=hI
    have h2:=ZD kz i
    by_cases hlt:i<kz.length
    · obtain ⟨t', ht'⟩ : ∃ t', kz[i]? = some t' := ⟨kz[i], by simp⟩
      have hm:t'∈kz:=List.mem_of_getElem? ht'
      have h5:Zl (kz.take (i+1))=Zl (kz.take i)+t'.size:=by
       rw [List.take_add_one,ht',VI]
       simp [Zl]
      have h4:=ZD kz (i+1)
      obtain ⟨f1,f2,f3⟩:=ZdG (ts:=kz.take i) (n:=n') ((ZbH _).2 fun x hx=>hkar x (List.mem_of_mem_take hx)) hA hn2 hB (fun x hx=>hok x (List.mem_of_mem_take hx)) (by omega) hP
      have hc:=ih t' hm (by omega) (hkar t' hm) f1 f2 (by omega) (by omega) (by omega) hn2 (UQ (kz.take i) b)
      rw [← ZaS n' l ht', ← Qq b ht'] at hc
      obtain ⟨k',nm',s',b',kz'⟩:=t'
      have hj:=Zk ht'
      simp only [Tm.cells] at hc
      clear ih f1 f2 f3
      have hlx:=Zt (i:Int) ((Za kz).length:Int)
      rw [decide_eq_true (by rw [Zb];omega)] at hlx
      repeat' first|refine Jc (hc _) ?_|refine Ji ?_|refine Jl ?_|refine Jx ?_|refine Jo ?_|fail
      exact LoopI.go (m-1) (by omega) ⟨i+1,_,by omega,Zf ⟨rfl,rfl,rfl,Zd (Zc (n:=i+1) (by omega)),trivial⟩,rfl⟩
    · have e : i = kz.length := by omega
      subst e
      clear ih
      have hlx:=Zt (kz.length:Int) ((Za kz).length:Int)
      rw [decide_eq_false (by rw [Zb];omega)] at hlx
      rw [List.take_length]
      repeat' first|refine Ji ?_|refine Jl ?_|refine Jo ?_|fail
      exact Zw _ _ _ _ _
 · rw [if_neg he, if_neg he]
   rw [Bool.eq_false_iff.2 he] at hsp
   have hadd:=hadd (.mk hk hs hn hl hok)
   simp only [Tm.cells] at hadd
   clear ih
   repeat' first|refine Jc (hsp _) ?_|refine Jc (hadd _) ?_|refine Jt ?_|refine Jo ?_|fail
   all_goals exact Zw _ _ _ _ _
theorem QM (m:Nat) (H:Heap) (b:Bool) (l:List (List PV)) (e:Int):frz3 m H (.tup [slV b 5 l,.int .i64 e])=some (.tup [slV b 5 l,.int .i64 e]):=by
 rw [Xx]
 simp only [Vq,Zeo]
 rfl
theorem ZnT (ht:t.Ok) (hs:t.size≤100000):∃ b,∀ H,CallOk E0 Tryz.prog 187 [.agg t.cells] H (.tup [slV b 5 (pwL (ofR t).1),.int .i64 (ofR t).2]) H:=by
 have hV:=ZkQ ht (by omega)
 have har:=Ztq ht (by omega)
 have hcol:=fun (h:t.ari=true)=>ZsB ht hs h (l:=[]) (n:=1) (B:=0) trivial (PwB.nil 0) (by omega) (by omega) (by simp;omega) (.inl rfl) true
 have hnil:slV true 5 (pwL [])= .nils:=Zh 5
 unfold ofR
 by_cases h1:t.valid≠0
 · rw [if_pos h1]
   refine ⟨true,?_⟩
   rw [hnil]
   generalize t.valid=v at hV h1 ⊢
   clear har hcol
   obtain ⟨k,nm,s,f,kz⟩:=t
   simp only [Tm.cells] at hV ⊢
   refine Jw tOk fe187.ok rfl ?_
   repeat' first|refine Jc (hV _) ?_|refine Jb ?_ ?_|refine Jo ?_|intro hb
   all_goals first
    | rfl
    | (exfalso;simp_all;done)
 · rw [if_neg h1]
   have h1:=Classical.not_not.1 h1
   rw [h1] at hV
   cases h2:t.ari with
   | false =>
     rw [if_pos rfl]
     refine ⟨true,?_⟩
     rw [hnil]
     rw [h2] at har
     clear hcol
     obtain ⟨k,nm,s,f,kz⟩:=t
     simp only [Tm.cells] at hV har ⊢
     refine Jw tOk fe187.ok rfl ?_
     repeat' first|refine Jc (hV _) ?_|refine Jc (har _) ?_|refine Jt ?_|refine Jo ?_|fail
     all_goals rfl
   | true =>
     rw [if_neg (by decide)]
     rw [h2] at har
     have hcol:=hcol h2
     rw [hnil] at hcol
     generalize t.colR 1 []=L at hcol ⊢
     generalize t.colFl true=F at hcol
     have hlen:=ZO L
     obtain ⟨k,nm,s,f,kz⟩:=t
     simp only [Tm.cells] at hV har hcol ⊢
     by_cases h3:200<L.length
     · rw [if_pos h3]
       refine ⟨true,?_⟩
       rw [hnil]
       refine Jw tOk fe187.ok rfl ?_
       repeat' first|(apply qCl;rfl;rfl;rfl;rfl;first|exact hV _|exact har _|exact hcol _)|refine Jl ?_|refine Jt ?_|refine Jb ?_ ?_|refine Jo ?_|intro hb
       all_goals first
        | rfl
        | (exfalso;rw [hlen] at hb;simp only [decide_eq_false_iff_not] at hb;omega)
     · rw [if_neg h3]
       refine ⟨F,?_⟩
       refine Jw tOk fe187.ok (QM _ _ _ _ _) ?_
       repeat' first|(apply qCl;rfl;rfl;rfl;rfl;first|exact hV _|exact har _|exact hcol _)|refine Jl ?_|refine Jt ?_|refine Jb ?_ ?_|refine Jo ?_|intro hb
       all_goals first
        | exact QM _ _ _ _ _
        | (exfalso;rw [hlen] at hb;simp only [decide_eq_true_eq] at hb;omega)
end Go.Vm.Seat
namespace Go.Vm
variable {l:List Pw}
def WN (l:List Pw) (i:Nat):Option Tm:=if i=0 then none else (l[i-1]?).map (·.1)
theorem ZeC {i:Nat} {x:Pw} (h:l[i]? = some x):pvL (WN l i) (l.drop i)=if x.1.valid≠0 then x.1.valid else if x.1.sym=true then 1 else if (decide (x.2=0)||Z9 x.2 1000)=true then 7 else if VY (WN l i) x.1=true then 5 else pvL (WN l (i+1)) (l.drop (i+1)):=by
 have e:WN l (i+1)=some x.1:=by
  unfold WN
  rw [if_neg (by omega),Nat.add_sub_cancel,h]
  rfl
 rw [ZC h,e]
 rfl
theorem ZaN {j:Nat} {y:Pw} (h:l[j]? = some y):WN l (j+1)=some y.1:=by
 unfold WN
 rw [if_neg (by omega),Nat.add_sub_cancel,h]
 rfl
end Go.Vm
namespace Go.Vm.Seat
open Go.Proofs
theorem Xw (a b:Int):Y2 E0 .gtr 3 (.int .i64 a) (.int .i64 b)=some (.bool (decide (b<a))):=rfl
theorem UT (a b:Int):Y2 E0 .geq 3 (.int .i64 a) (.int .i64 b)=some (.bool (decide (b≤a))):=rfl
theorem ZjP {a b:Int} (h: -9223372036854775808≤a-b) (h':a-b≤9223372036854775807):Y2 E0 .sub 3 (.int .i64 a) (.int .i64 b)=some (.int .i64 (a-b)):=by
 show some (PV.int .i64 (IntKind.i64.wrap (a-b)))=_
 rw [IntWalk.i64_in _ (by omega)]
theorem ZpL {l:List Pw} (hl:∀ x,x∈l→x.1.Ok∧x.1.size≤100000) (hlen:l.length≤1000000) (b:Bool):∀ H,CallOk E0 Tryz.prog 212 [slV b 5 (pwL l)] H (.int .i64 (pvG l)) H:=by
 have hpl:=ZO l
 unfold pvG
 refine Jw tOk fe212.ok rfl ?_
 by_cases h2:200<l.length
 · rw [if_pos h2]
   repeat' first|refine Jl ?_|refine Jb ?_ ?_|refine Jo ?_|intro hb
   all_goals first
    | rfl
    | (exfalso;rw [hpl] at hb;simp only [decide_eq_false_iff_not] at hb;omega)
 · rw [if_neg h2]
   repeat' first|refine Jl ?_|refine Jb ?_ ?_|refine Jo ?_|intro hb
   · exfalso;rw [hpl] at hb;simp only [decide_eq_true_eq] at hb;omega
   refine Wp.while (fun m tm H => ∃ (i : Nat) (base : TM), i + m = l.length ∧ pvL none l = pvL (WN l i) (l.drop i) ∧
     tm=ovr base [(0,slV b 5 (pwL l)),(3,.int .i64 (i:Int))]∧H=hNil)
    (fun m tm H hI=>?_) l.length _ _ ⟨0,_,by omega,by rw [List.drop_zero];rfl,Zf ⟨rfl,rfl,trivial⟩,rfl⟩
   obtain ⟨i,base,hi,hgo,rfl,rfl⟩:=hI
   rw [hgo]
   clear hb hgo
   by_cases hlt:i<l.length
   · obtain ⟨x, hx⟩ : ∃ x, l[i]? = some x := ⟨l[i], by simp⟩
     have hxs:=hl x (List.mem_of_getElem? hx)
     have hV:=ZkQ hxs.1 (by have:=hxs.2;omega)
     have hsp:=Zqo x.1
     have hd:=ZeC hx
     have hlx:=Zt (i:Int) ((pwL l).length:Int)
     rw [decide_eq_true (by rw [hpl];omega)] at hlx
     have hZ:=YB x.2 0
     have hL:=Zt x.2 (-1000)
     have hG:=Xw x.2 1000
     have hC:∀ (j:Nat) (y:Pw),l[j]? = some y→∃ c,(∀ H,CallOk E0 Tryz.prog 81 [.agg y.1.cells,.agg x.1.cells] H (.int .i64 c) H)∧(i=j+1→VY (WN l i) x.1=decide (0≤c)):=fun j y hy=>⟨_,Zrv (hl y (List.mem_of_getElem? hy)) hxs,fun e=>by rw [e,ZaN hy];rfl⟩
     have hC0:i=0→VY (WN l i) x.1=false:=fun e=>by rw [e];rfl
     have hj:=Xb hx
     unfold Z9 at hd
     generalize pvL (WN l i) (l.drop i)=R at hd ⊢
     generalize VY (WN l i) x.1=LB at hd hC hC0
     generalize decide (x.2=0)=bZ at hZ hd
     generalize decide (x.2< -1000)=bL at hL hd
     generalize decide ((1000:Int)<x.2)=bG at hG hd
     generalize x.1.valid=v at hV hd
     generalize x.1.sym=sy at hsp hd
     obtain ⟨⟨k',nm',s',b',kz'⟩,xn⟩:=x
     simp only [pwC,Tm.cells,List.cons_append,List.nil_append] at hV hsp hj hC
     by_cases hv:v≠0
     · rw [if_pos hv] at hd
       repeat' first|refine Jc (hV _) ?_|refine Jc (hsp _) ?_|refine Ji ?_|refine Jl ?_|refine Jx ?_|refine Jb ?_ ?_|refine Jo ?_|intro hb
       all_goals first
        | (exfalso;simp at hb;exact hv hb)
        | rw [hd]
     have hv:=Classical.not_not.1 hv
     subst hv
     rw [if_neg (by simp)] at hd
     cases sy
     rotate_left
     · rw [if_pos rfl] at hd
       repeat' first|refine Jc (hV _) ?_|refine Jc (hsp _) ?_|refine Ji ?_|refine Jl ?_|refine Jx ?_|refine Jt ?_|refine Jo ?_|fail
       all_goals rw [hd]
     rw [if_neg (by decide)] at hd
     by_cases hbad:(bZ||(bL||bG))=true
     · rw [if_pos hbad] at hd
       cases bZ<;>cases bL<;>cases bG<;>first|(exact absurd hbad (by decide))|skip
       all_goals
        repeat' first|refine Jk ?_|refine Jc (hV _) ?_|refine Jc (hsp _) ?_|refine Ji ?_|refine Jl ?_|refine Jx ?_|refine Jt ?_|refine Jo ?_|fail
        all_goals rw [hd]
     · rw [if_neg hbad] at hd
       obtain rfl:bZ=false:=by cases bZ<;>simp_all
       obtain rfl:bL=false:=by cases bL<;>simp_all
       obtain rfl:bG=false:=by cases bG<;>simp_all
       match i,hi,hlt,hx,hj,hC0,hC,hlx with
       | 0, hi, hlt, hx, hj, hC0, hC, hlx =>
         rw [hC0 rfl,if_neg (by decide)] at hd
         repeat' first|refine Jc (hV _) ?_|refine Jc (hsp _) ?_|refine Ji ?_|refine Jl ?_|refine Jx ?_|refine Jt ?_|refine Jo ?_|(apply dK;rfl;rfl;rfl)|(apply dF (ty:=4);rfl;rfl;rfl;rfl)|refine Jh ?_|(apply Wp.draw tOk follows;kernel_rfl)|fail
         all_goals exact LoopI.go (m-1) (by omega) ⟨0+1,_,by omega,by rw [hd],Zf ⟨rfl,Zd (Zc (n:=0+1) (by omega)),trivial⟩,rfl⟩
       | j + 1, hi, hlt, hx, hj, hC0, hC, hlx =>
         obtain ⟨y,hy⟩:∃ y,l[j]? = some y:=⟨l[j],by simp⟩
         obtain ⟨c,hCy,hLB⟩:=hC j y hy
         have hLB:=hLB rfl
         have hg0:=Xw ((j+1:Nat):Int) 0
         rw [decide_eq_true (by omega)] at hg0
         have hsb:Y2 E0 .sub 3 (.int .i64 ((j+1:Nat):Int)) (.int .i64 1)=some (.int .i64 (j:Int)):=by
          rw [ZjP (by omega) (by omega)]
          congr 2
          omega
         have hjy:=Xb hy
         have hge:=UT c 0
         rw [← hLB] at hge
         obtain ⟨⟨k2,nm2,s2,b2,kz2⟩,yn⟩:=y
         simp only [pwC,Tm.cells,List.cons_append,List.nil_append] at hCy hjy
         cases LB
         · rw [if_neg (by decide)] at hd
           repeat' first|refine Jc (hV _) ?_|refine Jc (hsp _) ?_|refine Ji ?_|refine Jl ?_|refine Jx ?_|refine Jt ?_|refine Jo ?_|refine Jd (hCy _) ?_|refine JD ?_|refine JI ?_|(apply dT (ty:=4);rfl;rfl;rfl;rfl)|(apply dF (ty:=4);rfl;rfl;rfl;rfl)|refine Jh ?_|(apply Wp.draw tOk follows;kernel_rfl)|fail
           all_goals exact LoopI.go (m-1) (by omega) ⟨j+1+1,_,by omega,by rw [hd],Zf ⟨rfl,Zd (Zc (n:=j+1+1) (by omega)),trivial⟩,rfl⟩
         · rw [if_pos rfl] at hd
           repeat' first|refine Jc (hV _) ?_|refine Jc (hsp _) ?_|refine Ji ?_|refine Jl ?_|refine Jx ?_|refine Jt ?_|refine Jo ?_|refine Jd (hCy _) ?_|refine JD ?_|refine JI ?_|(apply dT (ty:=4);rfl;rfl;rfl;rfl)|refine Jh ?_|(apply Wp.draw tOk follows;kernel_rfl)|fail
           all_goals rw [hd]
   · have e : i = l.length := by omega
     subst e
     have hlx:=Zt (l.length:Int) ((pwL l).length:Int)
     rw [decide_eq_false (by rw [hpl];omega)] at hlx
     repeat' first|refine Ji ?_|refine Jl ?_|refine Jo ?_|fail
     rw [List.drop_length]
     rfl
