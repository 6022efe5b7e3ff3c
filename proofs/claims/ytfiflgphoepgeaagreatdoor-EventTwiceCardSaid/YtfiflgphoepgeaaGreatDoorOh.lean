/-
  Powers: the term of a product (the program's text).
-/
import Derived.Test.YtfiflgphoepgeaaGreatDoorOg
set_option maxHeartbeats 0
set_option maxRecDepth 100000
namespace Go.Vm
variable {l:List Pw}
theorem Zfb {a b:PV} (h:Z6 a=none∨Z6 a≠Z6 b):Z6 b=none∨Z6 b≠Z6 a:=by
 rcases h with h|h
 · cases e : Z6 b with
   | none=>exact .inl rfl
   | some k=>exact .inr (by rw [h];simp)
 · exact .inr fun e=>h e.symm
theorem ZiW {i:Nat} {x:Pw} (h:l[i]? = some x):(l.drop i).any (fun x=>Z9 x.2 8)=(Z9 x.2 8||(l.drop (i+1)).any (fun x=>Z9 x.2 8)):=by
 rw [ZC h];rfl
theorem ZeQ (h:∀ x,x∈l→Z9 x.2 8=false):(UW l).length≤8*l.length∧(Zay l).length≤8*l.length:=by
 induction l with
 |nil=>simp [UW,Zay]
 | cons x r ih =>
   have h1:=h x List.mem_cons_self
   obtain ⟨h2,h3⟩:=ih fun y hy=>h y (List.mem_cons_of_mem _ hy)
   simp only [Z9,Bool.or_eq_false_iff,decide_eq_false_iff_not] at h1
   simp only [UW,Zay,List.flatMap_cons,List.length_append,List.length_replicate,List.length_cons] at h2 h3 ⊢
   omega
end Go.Vm
namespace Go.Vm.Seat
variable {L M:List Tm} {o2:PV} {lv:List Nat} {nt:Nat}
open Go.Proofs
theorem ZoL {out : PV} (hA : ApV true 4 (Za L) out lv nt) (hB : ApV true 4 (Za M) o2 lv nt) (hd : Z6 o2 = none ∨ Z6 o2 ≠ Z6 out) (x : Tm) (hL : L.length ≤ 1000000) :
  ∃ out' lv' nt',(∀ bx ro,ZB E0 32 32 out (.sl .full 4 [x.cells]) ⟨bx,ro,lv,nt⟩=some (out',⟨bx,ro,lv',nt'⟩))∧ApV true 4 (Za (L++ [x])) out' lv' nt'∧ApV true 4 (Za M) o2 lv' nt'∧(Z6 o2=none∨Z6 o2≠Z6 out'):=by
 obtain ⟨out',lv',nt',hap,hA',hk⟩:=hA.app YZ (.sl .full 4 (Za [x])) (Zs _) (ZS (by simp only [Zb,List.length_cons,List.length_nil];omega) (by decide)) (ZW _)
 rw [← Zz] at hA'
 obtain ⟨h1,h2⟩:=hk _ _ _ _ hB hd
 exact ⟨out',lv',nt',hap,hA',h1,h2⟩
theorem Zjj (x:Tm):∀ H,CallOk E0 Tryz.prog 122 [.str WJ,.sl .full 4 [x.cells]] H (.agg (Zfz x).cells) H:=fun H=>by
 have:=ZpH WJ [x] false H
 simp only [Zfz,Tm.cells,Za,Zm] at this ⊢
 exact Zr this rfl
theorem Zq7 {o1 : PV} (hA : ApV true 4 (Za L) o1 lv nt) (hB : ApV true 4 (Za M) o2 lv nt) :
  ZT E0 173 2 [(0,o1),(1,o2)]=some (1,[[o1],[o2]])∧ZX [[o1],[o2]]=some [[slV true 4 (Za L)],[slV true 4 (Za M)]]:=by
 constructor
 · generalize Za L = A at hA
   generalize Za M=B at hB
   cases hA<;>cases hB<;>rfl
 · simp only [ZX,UU,hA.frz1,hB.frz1]
theorem c75 {l:List Pw} (hl:PwB 1000000000 l) (hlen:l.length≤100000) (b:Bool):∀ H,CallOk E0 Tryz.prog 75 [slV b 5 (pwL l)] H (.tup [.agg (XQ true l).1.cells,.int .i64 (XQ true l).2]) H:=by
 have hV:=Zpw (fun x hx=>(hl x hx).1) (by omega) b
 unfold XQ
 by_cases hp0:pvG l≠0
 · rw [if_pos hp0]
   generalize pvG l=v at hV hp0 ⊢
   have hne:=YQ hp0
   simp only [Zn]
   refine Jw tOk fe75.ok (Yc _ _ _) ?_
   repeat' first|refine Jc (hV _) ?_|refine Ji ?_|refine Jo ?_|fail
   all_goals rfl
 rw [if_neg hp0]
 have hp0:=Classical.not_not.1 hp0
 rw [hp0] at hV
 have hl200:=Vs hp0
 have hpl:=ZO l
 obtain ⟨R,hR⟩:∃ R,R=if l.any (fun x=>Z9 x.2 8)=true then (Tm.zero,(3:Int)) else Zko true l:=⟨_,rfl⟩
 rw [← hR]
 refine Jw tOk fe75.ok (ZE 0 hNil R.1 R.2) ?_
 repeat' first|refine Jc (hV _) ?_|refine Jl ?_|refine Jt ?_|refine Jo ?_|fail
 refine Wp.while (fun m tm H => ∃ (i : Nat) (base : TM) (o1 o2 : PV) (lv : List Nat) (nt : Nat), i + m = l.length ∧ l.any (fun x => Z9 x.2 8) = (l.drop i).any (fun x => Z9 x.2 8) ∧ (∀ x, x ∈ l.take i → Z9 x.2 8 = false) ∧
   ApV true 4 (Za (UW (l.take i))) o1 lv nt∧ApV true 4 (Za (Zay (l.take i))) o2 lv nt∧(Z6 o2=none∨Z6 o2≠Z6 o1)∧
   tm=ovr base [(5,o1),(6,o2),(2,.ptr 0 4 0 0),(18,slV b 5 (pwL l)),(19,.int .i64 (l.length:Int)),(20,.int .i64 (i:Int))]∧H=⟨[.cells 4 [zcT]],0,lv,nt⟩)
  (fun m tm H hI=>Wp.drop ?_) l.length _ _ ⟨0,_,_,_,_,_,by omega,by rw [List.drop_zero],fun x hx=>by simp at hx,.nil _ _ rfl,.nil _ _ rfl,.inl rfl,Zf ⟨rfl,rfl,rfl,rfl,Zd (by rw [hpl]),rfl,trivial⟩,rfl⟩
 obtain ⟨i,base,o1,o2,lv,nt,hi,hgo,hall,hA,hB,hD,rfl,rfl⟩:=hI
 have hBU:∀ n,Yq n (.cells 4 [zcT])=true:=fun n=>rfl
 by_cases hlt:i<l.length
 · obtain ⟨x, hx⟩ : ∃ x, l[i]? = some x := ⟨l[i], by simp⟩
   have hxs:=hl x (List.mem_of_getElem? hx)
   have hcl:=Zpm hxs.1.1 hxs.1.2
   have hIv:=Zjj x.1
   have hps:=Zcc hx
   have hns:=Zc5 hx
   have hd:=ZiW hx
   obtain ⟨hpL,hnL⟩:=ZeQ hall
   have htk:(l.take i).length≤l.length:=by rw [List.length_take];omega
   have hlx:=Zt (i:Int) (l.length:Int)
   rw [decide_eq_true (by omega)] at hlx
   have hG:=Xw x.2 8
   have hL:=Zt x.2 (-8)
   have hj:=Xb hx
   by_cases hov:Z9 x.2 8=true
   · have hany : l.any (fun x => Z9 x.2 8) = true := by rw [hgo, hd, hov]; rfl
     rw [if_pos hany] at hR
     rw [hR]
     simp only [Zn]
     unfold Z9 at hov
     generalize decide (x.2< -8)=bL at hL hov
     generalize decide ((8:Int)<x.2)=bG at hG hov
     obtain ⟨⟨k',nm',s',b',kz'⟩,xn⟩:=x
     simp only [pwC,Tm.cells,List.cons_append,List.nil_append] at hj
     clear hcl hIv
     cases bL<;>cases bG<;>first|(exact absurd hov (by decide))|skip
     all_goals
      repeat' first|refine Jk ?_|refine Ji ?_|refine Jx ?_|refine Jt ?_|refine Jo ?_|fail
      all_goals rfl
   · have hov := Bool.eq_false_iff.2 hov
     have hall':∀ y,y∈l.take (i+1)→Z9 y.2 8=false:=fun y hy=>by
      rw [List.take_add_one,hx] at hy
      rcases List.mem_append.1 hy with hy|hy
      · exact hall y hy
      · have : y = x := by simpa using hy
        rw [this];exact hov
     have hgo':l.any (fun x=>Z9 x.2 8)=(l.drop (i+1)).any (fun x=>Z9 x.2 8):=by rw [hgo,hd,hov];rfl
     have hov2:=hov
     simp only [Z9,Bool.or_eq_false_iff,decide_eq_false_iff_not] at hov2
     rw [decide_eq_false hov2.1] at hL
     rw [decide_eq_false hov2.2] at hG
     have hw:IntKind.i64.wrap (0-x.2)= -x.2:=by rw [IntWalk.i64_in _ (by omega)];omega
     obtain ⟨X,hX⟩:∃ X,X=x.1:=⟨_,rfl⟩
     obtain ⟨Y,hY⟩:∃ Y,Y=Zfz x.1:=⟨_,rfl⟩
     rw [← hX] at hps
     rw [← hY] at hns hIv
     have hXc:X.cells=x.1.cells:=by rw [hX]
     have hYc:Y.cells= [.int .i64 3,.str WJ,.int .i64 0,.sl .none 4 [x.1.cells]]:=by
      rw [hY]
      simp only [Zfz,Tm.cells,Za,Zm]
     rw [hYc] at hIv
     clear hX hY hd hgo hall hov hR
     generalize UW (l.take i)=P at hA hps hpL
     generalize Zay (l.take i)=Q at hB hns hnL
     obtain ⟨⟨k',nm',s',b',kz'⟩,xn⟩:=x
     simp only [pwC,Tm.cells,List.cons_append,List.nil_append,WJ] at hj hcl hIv hXc hYc hps hns hov2 hw hL hG
     repeat' first|refine Ji ?_|refine Jx ?_|refine Jt ?_|refine Jo ?_|fail
     refine Wp.while (fun m2 tm H => ∃ (k : Nat) (base : TM) (o1 o2 : PV) (lv : List Nat) (nt : Nat), k + m2 = xn.toNat ∧ ApV true 4 (Za (P ++ List.replicate k X)) o1 lv nt ∧ ApV true 4 (Za Q) o2 lv nt ∧ (Z6 o2 = none ∨ Z6 o2 ≠ Z6 o1) ∧
       tm=ovr base [(5,o1),(6,o2),(2,.ptr 0 4 0 0),(8,.ptr 1 5 0 0),(18,slV b 5 (pwL l)),(19,.int .i64 (l.length:Int)),(20,.int .i64 (i:Int)),(34,.int .i64 xn),(35,.int .i64 (k:Int))]∧H=⟨[.cells 4 [zcT],.cells 5 [[.int .i64 k',.str nm',.int .i64 s',slV b' 4 (Za kz'),.int .i64 xn]]],0,lv,nt⟩)
      (fun m2 tm H hI=>?_) xn.toNat _ _ ⟨0,_,_,_,_,_,by omega,by rw [List.replicate_zero,List.append_nil];exact hA,hB,hD,Zf ⟨rfl,rfl,rfl,rfl,rfl,rfl,rfl,rfl,rfl,trivial⟩,rfl⟩
     clear hA hB hD
     obtain ⟨k,base2,p1,p2,lv2,nt2,hk,hA,hB,hD,rfl,rfl⟩:=hI
     have hkx:=Zt (k:Int) xn
     by_cases hkn:k<xn.toNat
     · rw [decide_eq_true (by omega)] at hkx
       obtain ⟨q1,lv3,nt3,hap1,hA1,hB1,hD1⟩:=ZoL hA hB hD X (by simp;omega)
       rw [List.append_assoc, ← UX] at hA1
       rw [hXc] at hap1
       repeat' first|refine Jc (hcl _) ?_|refine Js ?_|refine JA ?_|refine Ji ?_|refine Jo ?_|fail
       refine LoopI.go (m2-1) (by omega) ⟨k+1,_,q1,_,lv3,nt3,by omega,hA1,hB1,hD1,Zf ⟨rfl,rfl,rfl,rfl,rfl,rfl,rfl,rfl,Zd (Zc (n:=k+1) (by omega)),trivial⟩,rfl⟩
     · have hke : k = xn.toNat := by omega
       rw [decide_eq_false (by omega)] at hkx
       rw [hke, ← hps] at hA
       repeat' first|refine Ji ?_|refine Jo ?_|fail
       refine Wp.while (fun m2 tm H => ∃ (k : Nat) (base : TM) (o1 o2 : PV) (lv : List Nat) (nt : Nat), k + m2 = (-xn).toNat ∧ ApV true 4 (Za (UW (l.take (i + 1)))) o1 lv nt ∧ ApV true 4 (Za (Q ++ List.replicate k Y)) o2 lv nt ∧ (Z6 o2 = none ∨ Z6 o2 ≠ Z6 o1) ∧
         tm=ovr base [(5,o1),(6,o2),(2,.ptr 0 4 0 0),(8,.ptr 1 5 0 0),(18,slV b 5 (pwL l)),(19,.int .i64 (l.length:Int)),(20,.int .i64 (i:Int)),(46,.int .i64 (-xn)),(47,.int .i64 (k:Int))]∧H=⟨[.cells 4 [zcT],.cells 5 [[.int .i64 k',.str nm',.int .i64 s',slV b' 4 (Za kz'),.int .i64 xn]]],0,lv,nt⟩)
        (fun m2 tm H hI=>?_) (-xn).toNat _ _ ⟨0,_,_,_,_,_,by omega,hA,by rw [List.replicate_zero,List.append_nil];exact hB,hD,Zf ⟨rfl,rfl,rfl,rfl,rfl,rfl,rfl,Zd hw,rfl,trivial⟩,rfl⟩
       clear hA hB hD
       obtain ⟨k,base3,p1,p2,lv3,nt3,hk,hA,hB,hD,rfl,rfl⟩:=hI
       have hkx:=Zt (k:Int) (-xn)
       by_cases hkn:k<(-xn).toNat
       · rw [decide_eq_true (by omega)] at hkx
         obtain ⟨q1,lv4,nt4,hap1,hB1,hA1,hD1⟩:=ZoL hB hA (Zfb hD) Y (by simp;omega)
         rw [List.append_assoc, ← UX] at hB1
         rw [hYc] at hap1
         repeat' first|refine Jc (hcl _) ?_|refine Jc (hIv _) ?_|refine Js ?_|refine JA ?_|refine Ji ?_|refine Jo ?_|fail
         refine LoopI.go (m2-1) (by omega) ⟨k+1,_,_,q1,lv4,nt4,by omega,hA1,hB1,Zfb hD1,Zf ⟨rfl,rfl,rfl,rfl,rfl,rfl,rfl,rfl,Zd (Zc (n:=k+1) (by omega)),trivial⟩,rfl⟩
       · have hke : k = (-xn).toNat := by omega
         rw [decide_eq_false (by omega)] at hkx
         rw [hke, ← hns] at hB
         repeat' first|refine Ji ?_|refine Jo ?_|fail
         refine DropQ.go [(5,p1),(6,p2),(2,.ptr 0 4 0 0),(18,slV b 5 (pwL l)),(19,.int .i64 (l.length:Int)),(20,.int .i64 ((i+1:Nat):Int))] ?_ ?_ rfl rfl ?_
         · exact ⟨rfl,rfl,rfl,rfl,rfl,Zd (Zc (n:=i+1) (by omega)),trivial⟩
         · simp [hA.under,hB.under,Zg,under]
         · exact LoopI.go (m-1) (by omega) ⟨i+1,_,p1,p2,lv3,nt3,by omega,hgo',hall',hA,hB,hD,rfl,rfl⟩
 · have e : i = l.length := by omega
   subst e
   rw [List.drop_length] at hgo
   rw [List.take_length] at hA hB hall
   rw [if_neg (by rw [hgo];simp)] at hR
   have hlx:=Zt (l.length:Int) (l.length:Int)
   rw [decide_eq_false (by omega)] at hlx
   obtain ⟨hpL,hnL⟩:=ZeQ hall
   obtain ⟨hb1,hb2⟩:=Zq7 hA hB
   have hcat:∀ H,CallOk E0 Tryz.prog 123 [.sl .full 1 [[slV true 4 (Za (UW l))],[slV true 4 (Za (Zay l))]]] H (slV true 4 (Za (Wx l))) H:=fun H=>Zr (Zre (a:=UW l) (b:=Zay l) (by omega) true true H) rfl
   have hOl:(Wx l).length≤10000:=by simp only [Wx,List.length_append];omega
   have hOm:∀ z,z∈Wx l→z.Ok∧z.size≤100001:=fun z hz=>⟨cls_ok.ops (fun x hx=>(hl x hx).1.1) z hz,ZeB (fun x hx=>(hl x hx).1.2) z hz⟩
   have hPV:=c41 (t:=prodT true (Wx l)) (cls_ok.prodT (fun x hx=>(hOm x hx).1) (by omega)) (by
    have h2:=ZaD true (Wx l)
    have h3:=ZbG (M:=100001) fun x hx=>(hOm x hx).2
    have h4:=Nat.mul_le_mul_right 100001 hOl
    omega)
   have hone:=ZpH VF [] true
   have hmul:=ZpH Vi (Wx l) true
   unfold Zko at hR
   clear hgo hall hD hi hlt hOm hp0
   generalize Wx l=O at hcat hOl hPV hmul hR
   have hlO:=Zb O
   simp only [Tm.cells,Za,Zh,VF] at hone
   repeat' first|refine Ji ?_|refine Jo ?_|fail
   refine UO rfl rfl rfl hb1 hb2 ?_
   clear hb1 hb2
   by_cases h8:8<O.length
   · rw [if_pos h8] at hR
     rw [hR]
     simp only [Zn]
     have hg8:=Xw ((Za O).length:Int) 8
     rw [decide_eq_true (by rw [hlO];omega)] at hg8
     repeat' first|refine Jc (hcat _) ?_|refine Ji ?_|refine Jl ?_|refine Jo ?_|fail
     all_goals rfl
   · rw [if_neg h8] at hR
     obtain ⟨U,hU⟩:∃ U,U=prodT true O:=⟨_,rfl⟩
     rw [← hU] at hPV hR
     obtain ⟨v,hv⟩:∃ v,v=U.valid:=⟨_,rfl⟩
     rw [← hv] at hPV hR
     clear hv
     match O,hcat,hmul,hU,h8,hlO with
     | [], hcat, hmul, hU, h8, hlO =>
       subst hU
       simp only [prodT,Tm.cells,Za,Zh,Vi,VF] at hcat hmul hPV
       by_cases hv:v≠0
       · rw [if_pos hv] at hR
         rw [hR]
         simp only [Zn]
         have hne:=YQ hv
         repeat' first|(apply qCl;rfl;rfl;rfl;rfl;first|exact hcat _|exact hmul _|exact hone _|exact hPV _)|refine Ji ?_|refine Jt ?_|refine Jo ?_|fail
         all_goals rfl
       · rw [if_neg hv] at hR
         have hv:=Classical.not_not.1 hv
         subst hv
         rw [hR]
         simp only [prodT,Tm.cells,Za,Zh,VF]
         repeat' first|(apply qCl;rfl;rfl;rfl;rfl;first|exact hcat _|exact hmul _|exact hone _|exact hPV _)|refine Jt ?_|refine Jo ?_|fail
         all_goals rfl
     | [x], hcat, hmul, hU, h8, hlO =>
       have hU:U=x:=hU
       rw [hU] at hPV hR
       simp only [Za,Zm,Tm.cells,Vi] at hcat hmul
       by_cases hv:v≠0
       · rw [if_pos hv] at hR
         rw [hR]
         simp only [Zn]
         have hne:=YQ hv
         obtain ⟨k',nm',s',b',kz'⟩:=x
         simp only [Tm.cells] at hcat hmul hPV
         repeat' first|(apply qCl;rfl;rfl;rfl;rfl;first|exact hcat _|exact hmul _|exact hPV _)|refine Ji ?_|refine Jt ?_|refine Jo ?_|fail
         all_goals rfl
       · rw [if_neg hv] at hR
         have hv:=Classical.not_not.1 hv
         subst hv
         rw [hR]
         have hfx:=fun m H=>ZE m H x 0
         obtain ⟨k',nm',s',b',kz'⟩:=x
         simp only [Tm.cells] at hcat hmul hPV hfx ⊢
         repeat' first|(apply qCl;rfl;rfl;rfl;rfl;first|exact hcat _|exact hmul _|exact hPV _)|refine Jt ?_|refine Jo ?_|fail
         all_goals exact hfx _ _
     | x :: y :: r, hcat, hmul, hU, h8, hlO =>
       subst hU
       have e2:slV true 4 (Za (x::y::r))= .sl .none 4 (x.cells::y.cells::Za r):=Zm _ _ _ _
       have e3:slV false 4 (Za (x::y::r))= .sl .none 4 (x.cells::y.cells::Za r):=Zm _ _ _ _
       have hE:(x.cells::y.cells::Za r).length=r.length+2:=by simp [Zb]
       simp only [prodT,Tm.cells,Vi] at hPV hmul
       rw [e2] at hcat hmul
       rw [e3] at hPV
       have hx1:Y2 E0 .eql 3 (.int .i64 (Int.ofNat (x.cells::y.cells::Za r).length)) (.int .i64 0)=some (.bool false):=by
        show some (PV.bool (decide (_=_)))=_
        rw [decide_eq_false (by simp;omega)]
       have hx2:Y2 E0 .eql 3 (.int .i64 (Int.ofNat (x.cells::y.cells::Za r).length)) (.int .i64 1)=some (.bool false):=by
        show some (PV.bool (decide (_=_)))=_
        rw [decide_eq_false (by simp;omega)]
       have hx3:Y2 E0 .gtr 3 (.int .i64 (Int.ofNat (x.cells::y.cells::Za r).length)) (.int .i64 8)=some (.bool false):=by
        show some (PV.bool (decide (_<_)))=_
        rw [decide_eq_false (by rw [hE];simp only [List.length_cons] at h8;simp;omega)]
       by_cases hv:v≠0
       · rw [if_pos hv] at hR
         rw [hR]
         simp only [Zn]
         have hne:=YQ hv
         repeat' first|(apply qCl;rfl;rfl;rfl;rfl;first|exact hcat _|exact hmul _|exact hPV _)|refine Ji ?_|refine Jt ?_|refine Jo ?_|fail
         all_goals rfl
       · rw [if_neg hv] at hR
         have hv:=Classical.not_not.1 hv
         subst hv
         rw [hR]
         simp only [prodT,Tm.cells,e3,Vi]
         repeat' first|(apply qCl;rfl;rfl;rfl;rfl;first|exact hcat _|exact hmul _|exact hPV _)|refine Ji ?_|refine Jt ?_|refine Jo ?_|fail
         all_goals rfl
