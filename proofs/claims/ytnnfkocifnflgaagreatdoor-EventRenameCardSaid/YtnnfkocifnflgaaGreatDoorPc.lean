/-
  Two sessions are exchanged in a trace (the second text).
-/
import Derived.Test.YtnnfkocifnflgaaGreatDoorPb
set_option maxHeartbeats 0
set_option maxRecDepth 100000
namespace Go.Vm
variable {i:Nat}
def rnQ (f u:Int) (t:Tm):Tm:=t.rn (nmR f u) false
theorem ZiA (f u:Int) (t:Tm):rnQ f u t=if (t.xt (nmR f u)).cmp t≠0 then (if ((t.xt (nmR f u)).nf false).2=0 then ((t.xt (nmR f u)).nf false).1 else t.xt (nmR f u)) else t.xt (nmR f u):=(ZkM (nmR f u) t).symm
def Mo.rnT (f u:Int) (m:Mo):Mo:=⟨m.kind,if m.kind≠6 then Yo f u m.num else m.num,m.role,m.an,m.agents,m.goal,true,m.terms.map (rnQ f u)⟩
theorem ZcS {f u:Int} (hf:0≤f∧f≤9) (hu:0≤u∧u≤9) {s:Bs} (hs:s.length≤40):(nmR f u s).length≤41:=by
 rw [← Zgm hf hu]
 exact Zat hf hu hs
theorem Zli {l:List Tm} {x:Tm} (f:Tm→Tm) (h:l[i]? = some x):(l.take (i+1)).map f=(l.take i).map f++ [f x]:=Zar f h
theorem Zoo {l:List Mo} {x:Mo} (f:Mo→Mo) (h:l[i]? = some x):(l.take (i+1)).map f=(l.take i).map f++ [f x]:=by
 rw [List.take_add_one,h]
 simp
end Go.Vm
namespace Go.Vm.Seat
variable {f u:Int} {out:PV} {lv:List Nat} {nt:Nat}
open Go.Proofs
theorem rrO (h:f<0∨9<f∨u<0∨9<u) (l:List Mo) (b:Bool):∀ H,CallOk E0 Tryz.prog 9 [slV b 6 (moC l),.int .i64 f,.int .i64 u] H (slV b 6 (moC l)) H:=by
 have q1:=Zt f 0
 have q2:=XK f 9
 have q3:=Zt u 0
 have q4:=XK u 9
 refine Jw tOk fe9.ok (Zv _ _ _ _ _) ?_
 by_cases p1:f<0
 · rw [decide_eq_true p1] at q1
   repeat' first|refine Jk ?_|refine Js ?_|refine JA ?_|refine Ji ?_|refine JJ ?_|refine Jl ?_|refine Jx ?_|refine Jt ?_|refine Jb ?_ ?_|refine Jo ?_|(apply dK;rfl;rfl;rfl)|refine JB ?_|(apply dAq;rfl;rfl;rfl;rfl;rfl;rfl;(first|assumption|solve_by_elim))|(apply dAp;rfl;rfl;rfl;rfl;rfl;(first|assumption|solve_by_elim);rfl)|refine JD ?_|refine JK ?_|(apply dLn;rfl;rfl;rfl;rfl;rfl)|refine JI ?_|(apply dT (ty:=4);rfl;rfl;rfl;rfl)|(apply dF (ty:=4);rfl;rfl;rfl;rfl)|(apply dB (ty:=4);rfl;rfl;rfl;rfl)|refine Jh ?_|(apply Wp.draw tOk follows;kernel_rfl)|intro hb
   all_goals exact Zv _ _ _ _ _
 rw [decide_eq_false p1] at q1
 by_cases p2:9<f
 · rw [decide_eq_true p2] at q2
   repeat' first|refine Jk ?_|refine Js ?_|refine JA ?_|refine Ji ?_|refine JJ ?_|refine Jl ?_|refine Jx ?_|refine Jt ?_|refine Jb ?_ ?_|refine Jo ?_|(apply dK;rfl;rfl;rfl)|refine JB ?_|(apply dAq;rfl;rfl;rfl;rfl;rfl;rfl;(first|assumption|solve_by_elim))|(apply dAp;rfl;rfl;rfl;rfl;rfl;(first|assumption|solve_by_elim);rfl)|refine JD ?_|refine JK ?_|(apply dLn;rfl;rfl;rfl;rfl;rfl)|refine JI ?_|(apply dT (ty:=4);rfl;rfl;rfl;rfl)|(apply dF (ty:=4);rfl;rfl;rfl;rfl)|(apply dB (ty:=4);rfl;rfl;rfl;rfl)|refine Jh ?_|(apply Wp.draw tOk follows;kernel_rfl)|intro hb
   all_goals exact Zv _ _ _ _ _
 rw [decide_eq_false p2] at q2
 by_cases p3:u<0
 · rw [decide_eq_true p3] at q3
   repeat' first|refine Jk ?_|refine Js ?_|refine JA ?_|refine Ji ?_|refine JJ ?_|refine Jl ?_|refine Jx ?_|refine Jt ?_|refine Jb ?_ ?_|refine Jo ?_|(apply dK;rfl;rfl;rfl)|refine JB ?_|(apply dAq;rfl;rfl;rfl;rfl;rfl;rfl;(first|assumption|solve_by_elim))|(apply dAp;rfl;rfl;rfl;rfl;rfl;(first|assumption|solve_by_elim);rfl)|refine JD ?_|refine JK ?_|(apply dLn;rfl;rfl;rfl;rfl;rfl)|refine JI ?_|(apply dT (ty:=4);rfl;rfl;rfl;rfl)|(apply dF (ty:=4);rfl;rfl;rfl;rfl)|(apply dB (ty:=4);rfl;rfl;rfl;rfl)|refine Jh ?_|(apply Wp.draw tOk follows;kernel_rfl)|intro hb
   all_goals exact Zv _ _ _ _ _
 rw [decide_eq_false p3] at q3
 rw [decide_eq_true (by omega)] at q4
 repeat' first|refine Jk ?_|refine Js ?_|refine JA ?_|refine Ji ?_|refine JJ ?_|refine Jl ?_|refine Jx ?_|refine Jt ?_|refine Jb ?_ ?_|refine Jo ?_|(apply dK;rfl;rfl;rfl)|refine JB ?_|(apply dAq;rfl;rfl;rfl;rfl;rfl;rfl;(first|assumption|solve_by_elim))|(apply dAp;rfl;rfl;rfl;rfl;rfl;(first|assumption|solve_by_elim);rfl)|refine JD ?_|refine JK ?_|(apply dLn;rfl;rfl;rfl;rfl;rfl)|refine JI ?_|(apply dT (ty:=4);rfl;rfl;rfl;rfl)|(apply dF (ty:=4);rfl;rfl;rfl;rfl)|(apply dB (ty:=4);rfl;rfl;rfl;rfl)|refine Jh ?_|(apply Wp.draw tOk follows;kernel_rfl)|intro hb
 all_goals exact Zv _ _ _ _ _
theorem Zf6 (p:PV):ZR p=none∨ZR p≠ZR .nils:=by
 cases e:ZR p with
 |none=>exact .inl rfl
 |some k=>exact .inr (by simp [ZR])
theorem ZiT (h:ApV true 4 [] out lv nt):out= .nils:=by
 cases h with
 |nil=>rfl
 |full _ _ _ h=>cases h
 |tok _ _ _ _ hL=>exact absurd rfl hL
theorem V5 {M : List Mo} {L : List Tm} {o2 : PV} (hA : ApV true 4 (Za L) o2 lv nt) (hB : ApV true 6 (moC M) out lv nt) (hd : ZR out = none ∨ ZR out ≠ ZR o2) (x : Tm) (hL : L.length ≤ 1000000) :
  ∃ o2' lv' nt',(∀ bx ro,ZN E0 29 29 o2 (.sl .full 4 [x.cells]) ⟨bx,ro,lv,nt⟩=some (o2',⟨bx,ro,lv',nt'⟩))∧ApV true 4 (Za (L++ [x])) o2' lv' nt'∧ApV true 6 (moC M) out lv' nt'∧(ZR out=none∨ZR out≠ZR o2'):=by
 obtain ⟨out',lv',nt',hap,hA',hk⟩:=hA.app YX (.sl .full 4 (Za [x])) (Zr _) (ZX (by simp only [Zb,List.length_cons,List.length_nil];omega) (by decide)) (ZU _)
 rw [← ZG] at hA'
 obtain ⟨k1,k2⟩:=hk _ _ _ _ hB hd
 exact ⟨out',lv',nt',hap,hA',k1,k2⟩
theorem rrC (hf:0≤f∧f≤9) (hu:0≤u∧u≤9) {l:List Mo} (hl:TrOk l) (b:Bool):∀ H,CallOk E0 Tryz.prog 9 [slV b 6 (moC l),.int .i64 f,.int .i64 u] H (slV true 6 (moC (l.map (Mo.rnT f u)))) H:=by
 have q1:=Zt f 0
 have q2:=XK f 9
 have q3:=Zt u 0
 have q4:=XK u 9
 rw [decide_eq_false (by omega)] at q1 q2 q3 q4
 have h420:=hl.len
 have hml:=YA l
 refine Jw tOk fe9.ok (Zv _ _ _ _ _) ?_
 repeat' first|refine Jk ?_|refine Js ?_|refine JA ?_|refine Ji ?_|refine JJ ?_|refine Jl ?_|refine Jx ?_|refine Jt ?_|refine Jb ?_ ?_|refine Jo ?_|(apply dK;rfl;rfl;rfl)|refine JB ?_|(apply dAq;rfl;rfl;rfl;rfl;rfl;rfl;(first|assumption|solve_by_elim))|(apply dAp;rfl;rfl;rfl;rfl;rfl;(first|assumption|solve_by_elim);rfl)|refine JD ?_|refine JK ?_|(apply dLn;rfl;rfl;rfl;rfl;rfl)|refine JI ?_|(apply dT (ty:=4);rfl;rfl;rfl;rfl)|(apply dF (ty:=4);rfl;rfl;rfl;rfl)|(apply dB (ty:=4);rfl;rfl;rfl;rfl)|refine Jh ?_|(apply Wp.draw tOk follows;kernel_rfl)|intro hb
 clear q1 q2 q3 q4
 refine Wp.while (fun m tm H => ∃ (i : Nat) (base : TM) (out : PV) (lv : List Nat) (nt : Nat), i + m = l.length ∧ ApV true 6 (moC ((l.take i).map (Mo.rnT f u))) out lv nt ∧
   tm=ovr base [(0,slV b 6 (moC l)),(1,.int .i64 f),(2,.int .i64 u),(7,out),(8,.int .i64 (i:Int))]∧H=⟨[],0,lv,nt⟩)
  (fun m tm H hI=>Wp.drop ?_) l.length _ _ ⟨0,_,_,_,_,by omega,.nil _ _ rfl,Zf ⟨rfl,rfl,rfl,rfl,rfl,trivial⟩,rfl⟩
 obtain ⟨i,base,out,lv,nt,hi,hA,rfl,rfl⟩:=hI
 by_cases hlt:i<l.length
 rotate_left
 · have e : i = l.length := by omega
   subst e
   rw [List.take_length] at hA
   have hlx:=Zt (l.length:Int) ((moC l).length:Int)
   rw [decide_eq_false (by omega)] at hlx
   repeat' first|refine Jk ?_|refine Js ?_|refine JA ?_|refine Ji ?_|refine JJ ?_|refine Jl ?_|refine Jx ?_|refine Jt ?_|refine Jb ?_ ?_|refine Jo ?_|(apply dK;rfl;rfl;rfl)|refine JB ?_|(apply dAq;rfl;rfl;rfl;rfl;rfl;rfl;(first|assumption|solve_by_elim))|(apply dAp;rfl;rfl;rfl;rfl;rfl;(first|assumption|solve_by_elim);rfl)|refine JD ?_|refine JK ?_|(apply dLn;rfl;rfl;rfl;rfl;rfl)|refine JI ?_|(apply dT (ty:=4);rfl;rfl;rfl;rfl)|(apply dF (ty:=4);rfl;rfl;rfl;rfl)|(apply dB (ty:=4);rfl;rfl;rfl;rfl)|refine Jh ?_|(apply Wp.draw tOk follows;kernel_rfl)|intro hb
   exact hA.frz3 _ _
 obtain ⟨x,hx⟩:∃ x,l[i]? = some x:=⟨l[i],by simp⟩
 have hm:x∈l:=List.mem_of_getElem? hx
 have htl:=hl.tl x hm
 have hts:=hl.ts x hm
 have hlx:=Zt (i:Int) ((moC l).length:Int)
 rw [decide_eq_true (by omega)] at hlx
 have hj:=WD hx
 have hsn:=Zoo (Mo.rnT f u) hx
 obtain ⟨kd,nu,ro,an,ag,go,tn,te⟩:=x
 have hrn:Mo.rnT f u ⟨kd,nu,ro,an,ag,go,tn,te⟩=⟨kd,if kd≠6 then Yo f u nu else nu,ro,an,ag,go,true,te.map (rnQ f u)⟩:=rfl
 simp only [Mo.cells] at hj htl hts
 rw [hrn] at hsn
 have hnum:=c19 nu f u
 have hk6:=UA kd 6
 have hcl4:=Zb te
 have hll:((l.take i).map (Mo.rnT f u)).length≤1000:=by rw [List.length_map,List.length_take];omega
 generalize (l.take i).map (Mo.rnT f u)=ML at hA hsn hll
 obtain ⟨nu',hnu'⟩:∃ nu',nu'=if kd≠6 then Yo f u nu else nu:=⟨_,rfl⟩
 rw [← hnu'] at hsn
 clear hrn
 by_cases h6:kd=6
 · rw [decide_eq_true h6, Bool.not_true] at hk6
   rw [if_neg (not_not_intro h6)] at hnu'
   subst hnu'
   clear hnum
   have hnum:=h420
   repeat' first|refine Jk ?_|refine Js ?_|refine JA ?_|refine Ji ?_|refine JJ ?_|refine Jl ?_|refine Jx ?_|refine Jt ?_|refine Jb ?_ ?_|refine Jo ?_|(apply dK;rfl;rfl;rfl)|refine JB ?_|(apply dAq;rfl;rfl;rfl;rfl;rfl;rfl;(first|assumption|solve_by_elim))|(apply dAp;rfl;rfl;rfl;rfl;rfl;(first|assumption|solve_by_elim);rfl)|refine JD ?_|refine JK ?_|(apply dLn;rfl;rfl;rfl;rfl;rfl)|refine JI ?_|(apply dT (ty:=4);rfl;rfl;rfl;rfl)|(apply dF (ty:=4);rfl;rfl;rfl;rfl)|(apply dB (ty:=4);rfl;rfl;rfl;rfl)|refine Jh ?_|(apply Wp.draw tOk follows;kernel_rfl)|intro hb
   clear hnum
   refine Wp.while (fun m2 tm H => ∃ (k : Nat) (base : TM) (o2 : PV) (lv2 : List Nat) (nt2 : Nat), k + m2 = te.length ∧ ApV true 4 (Za ((te.take k).map (rnQ f u))) o2 lv2 nt2 ∧ ApV true 6 (moC ML) out lv2 nt2 ∧ (ZR out = none ∨ ZR out ≠ ZR o2) ∧
     tm=ovr base [(0,slV b 6 (moC l)),(1,.int .i64 f),(2,.int .i64 u),(7,out),(8,.int .i64 (i:Int)),(9,.ptr 0 6 0 0),(10,o2),(11,.int .i64 (k:Int))]∧H=⟨[.cells 6 [[.int .i64 kd,.int .i64 nu',.int .i64 ro,slV an 1 (Xk ag),.int .i64 go,slV tn 4 (Za te)]]],0,lv2,nt2⟩)
    (fun m2 tm H hI=>Wp.drop ?_) te.length _ _ ⟨0,_,_,_,_,by omega,.nil _ _ rfl,hA,Zf6 _,Zf ⟨rfl,rfl,rfl,rfl,rfl,rfl,rfl,rfl,trivial⟩,rfl⟩
   clear hA
   obtain ⟨k,base2,o2,lv2,nt2,hk,hB,hA,hD,rfl,rfl⟩:=hI
   by_cases hltk:k<te.length
   · obtain ⟨y, hy⟩ : ∃ y, te[k]? = some y := ⟨te[k], by simp⟩
     obtain ⟨yo,yn,ys⟩:=hts y (List.mem_of_getElem? hy)
     have hly:=Zt (k:Int) ((Za te).length:Int)
     rw [decide_eq_true (by omega)] at hly
     have hcT:=c20 hf hu yo yn (by omega)
     have hsx:=V4 (nmR f u) y
     have hxo:=ZfH (fun s hs=>ZcS hf hu hs) yo yn
     have hS:=Zcg (t:=y.xt (nmR f u)) (u:=y) ⟨hxo,by omega⟩ ⟨yo,by omega⟩
     have hcN:=c22 (t:=y.xt (nmR f u)) hxo (by omega)
     have hyv:=ZiA f u y
     have hsny:=Zli (rnQ f u) hy
     have hlm:((te.take k).map (rnQ f u)).length≤1000:=by rw [List.length_map,List.length_take];omega
     have hBU:Yb 1 (.cells 6 [[.int .i64 kd,.int .i64 nu',.int .i64 ro,slV an 1 (Xk ag),.int .i64 go,slV tn 4 (Za te)]])=true:=by simp [Yb,ZA,under,Zj]
     generalize (y.xt (nmR f u)).nf false=R at hcN hyv
     obtain ⟨N,ec⟩:=R
     generalize (y.xt (nmR f u)).cmp y=z at hS hyv
     generalize y.xt (nmR f u)=U at hcT hcN hyv hS
     clear hxo hsx
     by_cases hz:z=0
     · rw [if_neg (not_not_intro hz)] at hyv
       rw [decide_eq_true hz] at hS
       obtain ⟨o3,lv3,nt3,hap3,hB3,hA3,hD3⟩:=V5 hB hA hD U (by omega)
       rw [show U=rnQ f u y from hyv.symm, ← hsny] at hB3
       clear hB hA hD hyv hsny
       obtain ⟨k1,nm1,s1,f1,kz1⟩:=y
       obtain ⟨k2,nm2,s2,f2,kz2⟩:=U
       obtain ⟨k3,nm3,s3,f3,kz3⟩:=N
       have hjy:=Zh hy
       simp only [Tm.cells] at hcT hcN hS hap3
       repeat' first|refine Jk ?_|(apply qCl;rfl;rfl;rfl;rfl;first|exact hcT _|exact hS _|exact hcN _)|refine Js ?_|refine JA ?_|refine Ji ?_|refine JJ ?_|refine Jl ?_|refine Jx ?_|refine Jt ?_|refine Jb ?_ ?_|refine Jo ?_|(apply dK;rfl;rfl;rfl)|(apply dCl;rfl;rfl;rfl;rfl;rfl;first|exact hcT _|exact hS _|exact hcN _)|refine JB ?_|(apply dAq;rfl;rfl;rfl;rfl;rfl;rfl;(first|assumption|solve_by_elim))|(apply dAp;rfl;rfl;rfl;rfl;rfl;(first|assumption|solve_by_elim);rfl)|refine JD ?_|refine JK ?_|(apply dLn;rfl;rfl;rfl;rfl;rfl)|refine JI ?_|(apply dT (ty:=4);rfl;rfl;rfl;rfl)|(apply dF (ty:=4);rfl;rfl;rfl;rfl)|(apply dB (ty:=4);rfl;rfl;rfl;rfl)|refine Jh ?_|(apply Wp.draw tOk follows;kernel_rfl)|intro hb
       refine DropQ.go [(0,slV b 6 (moC l)),(1,.int .i64 f),(2,.int .i64 u),(7,out),(8,.int .i64 (i:Int)),(9,.ptr 0 6 0 0),(10,o3),(11,.int .i64 ((k+1:Nat):Int))] ?_ ?_ rfl ?_ ?_
       · exact ⟨rfl,rfl,rfl,rfl,rfl,rfl,rfl,Ze (Zc (n:=k+1) (by omega)),trivial⟩
       · simp [hA3.under,hB3.under,Zj,under]
       · show (Yb 1 _ && true) = true
         rw [hBU]
         rfl
       · exact LoopI.go (m2-1) (by omega) ⟨k+1,_,o3,lv3,nt3,by omega,hB3,hA3,hD3,rfl,rfl⟩
     · rw [if_pos hz] at hyv
       rw [decide_eq_false hz] at hS
       by_cases he:ec=0
       · subst he
         rw [if_pos rfl] at hyv
         obtain ⟨o3,lv3,nt3,hap3,hB3,hA3,hD3⟩:=V5 hB hA hD N (by omega)
         rw [show N=rnQ f u y from hyv.symm, ← hsny] at hB3
         clear hB hA hD hyv hsny
         obtain ⟨k1,nm1,s1,f1,kz1⟩:=y
         obtain ⟨k2,nm2,s2,f2,kz2⟩:=U
         obtain ⟨k3,nm3,s3,f3,kz3⟩:=N
         have hjy:=Zh hy
         simp only [Tm.cells] at hcT hcN hS hap3
         repeat' first|refine Jk ?_|(apply qCl;rfl;rfl;rfl;rfl;first|exact hcT _|exact hS _|exact hcN _)|refine Js ?_|refine JA ?_|refine Ji ?_|refine JJ ?_|refine Jl ?_|refine Jx ?_|refine Jt ?_|refine Jb ?_ ?_|refine Jo ?_|(apply dK;rfl;rfl;rfl)|(apply dCl;rfl;rfl;rfl;rfl;rfl;first|exact hcT _|exact hS _|exact hcN _)|refine JB ?_|(apply dAq;rfl;rfl;rfl;rfl;rfl;rfl;(first|assumption|solve_by_elim))|(apply dAp;rfl;rfl;rfl;rfl;rfl;(first|assumption|solve_by_elim);rfl)|refine JD ?_|refine JK ?_|(apply dLn;rfl;rfl;rfl;rfl;rfl)|refine JI ?_|(apply dT (ty:=4);rfl;rfl;rfl;rfl)|(apply dF (ty:=4);rfl;rfl;rfl;rfl)|(apply dB (ty:=4);rfl;rfl;rfl;rfl)|refine Jh ?_|(apply Wp.draw tOk follows;kernel_rfl)|intro hb
         refine DropQ.go [(0,slV b 6 (moC l)),(1,.int .i64 f),(2,.int .i64 u),(7,out),(8,.int .i64 (i:Int)),(9,.ptr 0 6 0 0),(10,o3),(11,.int .i64 ((k+1:Nat):Int))] ?_ ?_ rfl ?_ ?_
         · exact ⟨rfl,rfl,rfl,rfl,rfl,rfl,rfl,Ze (Zc (n:=k+1) (by omega)),trivial⟩
         · simp [hA3.under,hB3.under,Zj,under]
         · show (Yb 1 _ && true) = true
           rw [hBU]
           rfl
         · exact LoopI.go (m2-1) (by omega) ⟨k+1,_,o3,lv3,nt3,by omega,hB3,hA3,hD3,rfl,rfl⟩
       · rw [if_neg he] at hyv
         have heq:=ZcB he
         obtain ⟨o3,lv3,nt3,hap3,hB3,hA3,hD3⟩:=V5 hB hA hD U (by omega)
         rw [show U=rnQ f u y from hyv.symm, ← hsny] at hB3
         clear hB hA hD hyv hsny
         obtain ⟨k1,nm1,s1,f1,kz1⟩:=y
         obtain ⟨k2,nm2,s2,f2,kz2⟩:=U
         obtain ⟨k3,nm3,s3,f3,kz3⟩:=N
         have hjy:=Zh hy
         simp only [Tm.cells] at hcT hcN hS hap3
         repeat' first|refine Jk ?_|(apply qCl;rfl;rfl;rfl;rfl;first|exact hcT _|exact hS _|exact hcN _)|refine Js ?_|refine JA ?_|refine Ji ?_|refine JJ ?_|refine Jl ?_|refine Jx ?_|refine Jt ?_|refine Jb ?_ ?_|refine Jo ?_|(apply dK;rfl;rfl;rfl)|(apply dCl;rfl;rfl;rfl;rfl;rfl;first|exact hcT _|exact hS _|exact hcN _)|refine JB ?_|(apply dAq;rfl;rfl;rfl;rfl;rfl;rfl;(first|assumption|solve_by_elim))|(apply dAp;rfl;rfl;rfl;rfl;rfl;(first|assumption|solve_by_elim);rfl)|refine JD ?_|refine JK ?_|(apply dLn;rfl;rfl;rfl;rfl;rfl)|refine JI ?_|(apply dT (ty:=4);rfl;rfl;rfl;rfl)|(apply dF (ty:=4);rfl;rfl;rfl;rfl)|(apply dB (ty:=4);rfl;rfl;rfl;rfl)|refine Jh ?_|(apply Wp.draw tOk follows;kernel_rfl)|intro hb
         refine DropQ.go [(0,slV b 6 (moC l)),(1,.int .i64 f),(2,.int .i64 u),(7,out),(8,.int .i64 (i:Int)),(9,.ptr 0 6 0 0),(10,o3),(11,.int .i64 ((k+1:Nat):Int))] ?_ ?_ rfl ?_ ?_
         · exact ⟨rfl,rfl,rfl,rfl,rfl,rfl,rfl,Ze (Zc (n:=k+1) (by omega)),trivial⟩
         · simp [hA3.under,hB3.under,Zj,under]
         · show (Yb 1 _ && true) = true
           rw [hBU]
           rfl
         · exact LoopI.go (m2-1) (by omega) ⟨k+1,_,o3,lv3,nt3,by omega,hB3,hA3,hD3,rfl,rfl⟩
   · have e : k = te.length := by omega
     subst e
     have hly:=Zt (te.length:Int) ((Za te).length:Int)
     rw [decide_eq_false (by omega)] at hly
     rw [List.take_length] at hB
     obtain ⟨out',lv3,nt3,hap,hA', -⟩:=hA.app ZdU (.sl .full 6 (moC [⟨kd,nu',ro,an,ag,go,true,te.map (rnQ f u)⟩])) (ZdV _) (ZX (by simp only [YA,List.length_cons,List.length_nil];omega) (by decide)) (Zcx _)
     rw [← Zaj, ← hsn] at hA'
     rw [Zfs] at hap
     by_cases hte:te= []
     · subst hte
       have eo:o2= .nils:=ZiT hB
       subst eo
       rw [show slV true 4 (Za (List.map (rnQ f u) []))= .nils from Zk 4] at hap
       repeat' first|refine Jk ?_|refine Js ?_|refine JA ?_|refine Ji ?_|refine JJ ?_|refine Jl ?_|refine Jx ?_|refine Jt ?_|refine Jb ?_ ?_|refine Jo ?_|(apply dK;rfl;rfl;rfl)|refine JB ?_|(apply dAq;rfl;rfl;rfl;rfl;rfl;rfl;(first|assumption|solve_by_elim))|(apply dAp;rfl;rfl;rfl;rfl;rfl;(first|assumption|solve_by_elim);rfl)|refine JD ?_|refine JK ?_|(apply dLn;rfl;rfl;rfl;rfl;rfl)|refine JI ?_|(apply dT (ty:=4);rfl;rfl;rfl;rfl)|(apply dF (ty:=4);rfl;rfl;rfl;rfl)|(apply dB (ty:=4);rfl;rfl;rfl;rfl)|refine Jh ?_|(apply Wp.draw tOk follows;kernel_rfl)|intro hb
       refine DropQ.go [(0,slV b 6 (moC l)),(1,.int .i64 f),(2,.int .i64 u),(7,out'),(8,.int .i64 ((i+1:Nat):Int))] ?_ ?_ rfl rfl ?_
       · exact ⟨rfl,rfl,rfl,rfl,Ze (Zc (n:=i+1) (by omega)),trivial⟩
       · simp [hA'.under,Zj,under]
       · exact LoopI.go (m-1) (by omega) ⟨i+1,_,out',lv3,nt3,by omega,hA',rfl,rfl⟩
     · have hte2 : te.map (rnQ f u) ≠ [] := fun e => hte (by simpa using e)
       obtain ⟨kt,rfl⟩:=Xz hB fun e=>by
        have:=congrArg List.length e
        rw [Zb] at this
        exact hte2 (List.length_eq_zero_iff.1 this)
       rw [QY hte2] at hap
       repeat' first|refine Jk ?_|refine Js ?_|refine JA ?_|refine Ji ?_|refine JJ ?_|refine Jl ?_|refine Jx ?_|refine Jt ?_|refine Jb ?_ ?_|refine Jo ?_|(apply dK;rfl;rfl;rfl)|refine JB ?_|(apply dAq;rfl;rfl;rfl;rfl;rfl;rfl;(first|assumption|solve_by_elim))|(apply dAp;rfl;rfl;rfl;rfl;rfl;(first|assumption|solve_by_elim);rfl)|refine JD ?_|refine JK ?_|(apply dLn;rfl;rfl;rfl;rfl;rfl)|refine JI ?_|(apply dT (ty:=4);rfl;rfl;rfl;rfl)|(apply dF (ty:=4);rfl;rfl;rfl;rfl)|(apply dB (ty:=4);rfl;rfl;rfl;rfl)|refine Jh ?_|(apply Wp.draw tOk follows;kernel_rfl)|intro hb
       refine Znp (es:=6) (el:=[[.int .i64 kd,.int .i64 nu',.int .i64 ro,slV an 1 (Xk ag),.int .i64 go,.sl (.tok kt) 4 (Za (te.map (rnQ f u)))]]) (el':=[[.int .i64 kd,.int .i64 nu',.int .i64 ro,slV an 1 (Xk ag),.int .i64 go,.sl .none 4 (Za (te.map (rnQ f u)))]]) rfl rfl rfl rfl ?_ ?_
       · simp only [Yc, Uq, Yq]
         rfl
       repeat' first|refine Jk ?_|refine Js ?_|refine JA ?_|refine Ji ?_|refine JJ ?_|refine Jl ?_|refine Jx ?_|refine Jt ?_|refine Jb ?_ ?_|refine Jo ?_|(apply dK;rfl;rfl;rfl)|refine JB ?_|(apply dAq;rfl;rfl;rfl;rfl;rfl;rfl;(first|assumption|solve_by_elim))|(apply dAp;rfl;rfl;rfl;rfl;rfl;(first|assumption|solve_by_elim);rfl)|refine JD ?_|refine JK ?_|(apply dLn;rfl;rfl;rfl;rfl;rfl)|refine JI ?_|(apply dT (ty:=4);rfl;rfl;rfl;rfl)|(apply dF (ty:=4);rfl;rfl;rfl;rfl)|(apply dB (ty:=4);rfl;rfl;rfl;rfl)|refine Jh ?_|(apply Wp.draw tOk follows;kernel_rfl)|intro hb
       refine DropQ.go [(0,slV b 6 (moC l)),(1,.int .i64 f),(2,.int .i64 u),(7,out'),(8,.int .i64 ((i+1:Nat):Int))] ?_ ?_ rfl rfl ?_
       · exact ⟨rfl,rfl,rfl,rfl,Ze (Zc (n:=i+1) (by omega)),trivial⟩
       · simp [hA'.under,Zj,under]
       · exact LoopI.go (m-1) (by omega) ⟨i+1,_,out',lv3,nt3,by omega,hA',rfl,rfl⟩
 · rw [decide_eq_false h6, Bool.not_false] at hk6
   rw [if_pos h6] at hnu'
   rw [← hnu'] at hnum
   repeat' first|refine Jk ?_|refine Jc (hnum _) ?_|refine Js ?_|refine JA ?_|refine Ji ?_|refine JJ ?_|refine Jl ?_|refine Jx ?_|refine Jt ?_|refine Jb ?_ ?_|refine Jo ?_|(apply dK;rfl;rfl;rfl)|refine Jd (hnum _) ?_|refine JB ?_|(apply dAq;rfl;rfl;rfl;rfl;rfl;rfl;(first|assumption|solve_by_elim))|(apply dAp;rfl;rfl;rfl;rfl;rfl;(first|assumption|solve_by_elim);rfl)|refine JD ?_|refine JK ?_|(apply dLn;rfl;rfl;rfl;rfl;rfl)|refine JI ?_|(apply dT (ty:=4);rfl;rfl;rfl;rfl)|(apply dF (ty:=4);rfl;rfl;rfl;rfl)|(apply dB (ty:=4);rfl;rfl;rfl;rfl)|refine Jh ?_|(apply Wp.draw tOk follows;kernel_rfl)|intro hb
   clear hnum
   refine Wp.while (fun m2 tm H => ∃ (k : Nat) (base : TM) (o2 : PV) (lv2 : List Nat) (nt2 : Nat), k + m2 = te.length ∧ ApV true 4 (Za ((te.take k).map (rnQ f u))) o2 lv2 nt2 ∧ ApV true 6 (moC ML) out lv2 nt2 ∧ (ZR out = none ∨ ZR out ≠ ZR o2) ∧
     tm=ovr base [(0,slV b 6 (moC l)),(1,.int .i64 f),(2,.int .i64 u),(7,out),(8,.int .i64 (i:Int)),(9,.ptr 0 6 0 0),(10,o2),(11,.int .i64 (k:Int))]∧H=⟨[.cells 6 [[.int .i64 kd,.int .i64 nu',.int .i64 ro,slV an 1 (Xk ag),.int .i64 go,slV tn 4 (Za te)]]],0,lv2,nt2⟩)
    (fun m2 tm H hI=>Wp.drop ?_) te.length _ _ ⟨0,_,_,_,_,by omega,.nil _ _ rfl,hA,Zf6 _,Zf ⟨rfl,rfl,rfl,rfl,rfl,rfl,rfl,rfl,trivial⟩,rfl⟩
   clear hA
   obtain ⟨k,base2,o2,lv2,nt2,hk,hB,hA,hD,rfl,rfl⟩:=hI
   by_cases hltk:k<te.length
   · obtain ⟨y, hy⟩ : ∃ y, te[k]? = some y := ⟨te[k], by simp⟩
     obtain ⟨yo,yn,ys⟩:=hts y (List.mem_of_getElem? hy)
     have hly:=Zt (k:Int) ((Za te).length:Int)
     rw [decide_eq_true (by omega)] at hly
     have hcT:=c20 hf hu yo yn (by omega)
     have hsx:=V4 (nmR f u) y
     have hxo:=ZfH (fun s hs=>ZcS hf hu hs) yo yn
     have hS:=Zcg (t:=y.xt (nmR f u)) (u:=y) ⟨hxo,by omega⟩ ⟨yo,by omega⟩
     have hcN:=c22 (t:=y.xt (nmR f u)) hxo (by omega)
     have hyv:=ZiA f u y
     have hsny:=Zli (rnQ f u) hy
     have hlm:((te.take k).map (rnQ f u)).length≤1000:=by rw [List.length_map,List.length_take];omega
     have hBU:Yb 1 (.cells 6 [[.int .i64 kd,.int .i64 nu',.int .i64 ro,slV an 1 (Xk ag),.int .i64 go,slV tn 4 (Za te)]])=true:=by simp [Yb,ZA,under,Zj]
     generalize (y.xt (nmR f u)).nf false=R at hcN hyv
     obtain ⟨N,ec⟩:=R
     generalize (y.xt (nmR f u)).cmp y=z at hS hyv
     generalize y.xt (nmR f u)=U at hcT hcN hyv hS
     clear hxo hsx
     by_cases hz:z=0
     · rw [if_neg (not_not_intro hz)] at hyv
       rw [decide_eq_true hz] at hS
       obtain ⟨o3,lv3,nt3,hap3,hB3,hA3,hD3⟩:=V5 hB hA hD U (by omega)
       rw [show U=rnQ f u y from hyv.symm, ← hsny] at hB3
       clear hB hA hD hyv hsny
       obtain ⟨k1,nm1,s1,f1,kz1⟩:=y
       obtain ⟨k2,nm2,s2,f2,kz2⟩:=U
       obtain ⟨k3,nm3,s3,f3,kz3⟩:=N
       have hjy:=Zh hy
       simp only [Tm.cells] at hcT hcN hS hap3
       repeat' first|refine Jk ?_|(apply qCl;rfl;rfl;rfl;rfl;first|exact hcT _|exact hS _|exact hcN _)|refine Js ?_|refine JA ?_|refine Ji ?_|refine JJ ?_|refine Jl ?_|refine Jx ?_|refine Jt ?_|refine Jb ?_ ?_|refine Jo ?_|(apply dK;rfl;rfl;rfl)|(apply dCl;rfl;rfl;rfl;rfl;rfl;first|exact hcT _|exact hS _|exact hcN _)|refine JB ?_|(apply dAq;rfl;rfl;rfl;rfl;rfl;rfl;(first|assumption|solve_by_elim))|(apply dAp;rfl;rfl;rfl;rfl;rfl;(first|assumption|solve_by_elim);rfl)|refine JD ?_|refine JK ?_|(apply dLn;rfl;rfl;rfl;rfl;rfl)|refine JI ?_|(apply dT (ty:=4);rfl;rfl;rfl;rfl)|(apply dF (ty:=4);rfl;rfl;rfl;rfl)|(apply dB (ty:=4);rfl;rfl;rfl;rfl)|refine Jh ?_|(apply Wp.draw tOk follows;kernel_rfl)|intro hb
       refine DropQ.go [(0,slV b 6 (moC l)),(1,.int .i64 f),(2,.int .i64 u),(7,out),(8,.int .i64 (i:Int)),(9,.ptr 0 6 0 0),(10,o3),(11,.int .i64 ((k+1:Nat):Int))] ?_ ?_ rfl ?_ ?_
       · exact ⟨rfl,rfl,rfl,rfl,rfl,rfl,rfl,Ze (Zc (n:=k+1) (by omega)),trivial⟩
       · simp [hA3.under,hB3.under,Zj,under]
       · show (Yb 1 _ && true) = true
         rw [hBU]
         rfl
       · exact LoopI.go (m2-1) (by omega) ⟨k+1,_,o3,lv3,nt3,by omega,hB3,hA3,hD3,rfl,rfl⟩
     · rw [if_pos hz] at hyv
       rw [decide_eq_false hz] at hS
       by_cases he:ec=0
       · subst he
         rw [if_pos rfl] at hyv
         obtain ⟨o3,lv3,nt3,hap3,hB3,hA3,hD3⟩:=V5 hB hA hD N (by omega)
         rw [show N=rnQ f u y from hyv.symm, ← hsny] at hB3
         clear hB hA hD hyv hsny
         obtain ⟨k1,nm1,s1,f1,kz1⟩:=y
         obtain ⟨k2,nm2,s2,f2,kz2⟩:=U
         obtain ⟨k3,nm3,s3,f3,kz3⟩:=N
         have hjy:=Zh hy
         simp only [Tm.cells] at hcT hcN hS hap3
         repeat' first|refine Jk ?_|(apply qCl;rfl;rfl;rfl;rfl;first|exact hcT _|exact hS _|exact hcN _)|refine Js ?_|refine JA ?_|refine Ji ?_|refine JJ ?_|refine Jl ?_|refine Jx ?_|refine Jt ?_|refine Jb ?_ ?_|refine Jo ?_|(apply dK;rfl;rfl;rfl)|(apply dCl;rfl;rfl;rfl;rfl;rfl;first|exact hcT _|exact hS _|exact hcN _)|refine JB ?_|(apply dAq;rfl;rfl;rfl;rfl;rfl;rfl;(first|assumption|solve_by_elim))|(apply dAp;rfl;rfl;rfl;rfl;rfl;(first|assumption|solve_by_elim);rfl)|refine JD ?_|refine JK ?_|(apply dLn;rfl;rfl;rfl;rfl;rfl)|refine JI ?_|(apply dT (ty:=4);rfl;rfl;rfl;rfl)|(apply dF (ty:=4);rfl;rfl;rfl;rfl)|(apply dB (ty:=4);rfl;rfl;rfl;rfl)|refine Jh ?_|(apply Wp.draw tOk follows;kernel_rfl)|intro hb
         refine DropQ.go [(0,slV b 6 (moC l)),(1,.int .i64 f),(2,.int .i64 u),(7,out),(8,.int .i64 (i:Int)),(9,.ptr 0 6 0 0),(10,o3),(11,.int .i64 ((k+1:Nat):Int))] ?_ ?_ rfl ?_ ?_
         · exact ⟨rfl,rfl,rfl,rfl,rfl,rfl,rfl,Ze (Zc (n:=k+1) (by omega)),trivial⟩
         · simp [hA3.under,hB3.under,Zj,under]
         · show (Yb 1 _ && true) = true
           rw [hBU]
           rfl
         · exact LoopI.go (m2-1) (by omega) ⟨k+1,_,o3,lv3,nt3,by omega,hB3,hA3,hD3,rfl,rfl⟩
       · rw [if_neg he] at hyv
         have heq:=ZcB he
         obtain ⟨o3,lv3,nt3,hap3,hB3,hA3,hD3⟩:=V5 hB hA hD U (by omega)
         rw [show U=rnQ f u y from hyv.symm, ← hsny] at hB3
         clear hB hA hD hyv hsny
         obtain ⟨k1,nm1,s1,f1,kz1⟩:=y
         obtain ⟨k2,nm2,s2,f2,kz2⟩:=U
         obtain ⟨k3,nm3,s3,f3,kz3⟩:=N
         have hjy:=Zh hy
         simp only [Tm.cells] at hcT hcN hS hap3
         repeat' first|refine Jk ?_|(apply qCl;rfl;rfl;rfl;rfl;first|exact hcT _|exact hS _|exact hcN _)|refine Js ?_|refine JA ?_|refine Ji ?_|refine JJ ?_|refine Jl ?_|refine Jx ?_|refine Jt ?_|refine Jb ?_ ?_|refine Jo ?_|(apply dK;rfl;rfl;rfl)|(apply dCl;rfl;rfl;rfl;rfl;rfl;first|exact hcT _|exact hS _|exact hcN _)|refine JB ?_|(apply dAq;rfl;rfl;rfl;rfl;rfl;rfl;(first|assumption|solve_by_elim))|(apply dAp;rfl;rfl;rfl;rfl;rfl;(first|assumption|solve_by_elim);rfl)|refine JD ?_|refine JK ?_|(apply dLn;rfl;rfl;rfl;rfl;rfl)|refine JI ?_|(apply dT (ty:=4);rfl;rfl;rfl;rfl)|(apply dF (ty:=4);rfl;rfl;rfl;rfl)|(apply dB (ty:=4);rfl;rfl;rfl;rfl)|refine Jh ?_|(apply Wp.draw tOk follows;kernel_rfl)|intro hb
         refine DropQ.go [(0,slV b 6 (moC l)),(1,.int .i64 f),(2,.int .i64 u),(7,out),(8,.int .i64 (i:Int)),(9,.ptr 0 6 0 0),(10,o3),(11,.int .i64 ((k+1:Nat):Int))] ?_ ?_ rfl ?_ ?_
         · exact ⟨rfl,rfl,rfl,rfl,rfl,rfl,rfl,Ze (Zc (n:=k+1) (by omega)),trivial⟩
         · simp [hA3.under,hB3.under,Zj,under]
         · show (Yb 1 _ && true) = true
           rw [hBU]
           rfl
         · exact LoopI.go (m2-1) (by omega) ⟨k+1,_,o3,lv3,nt3,by omega,hB3,hA3,hD3,rfl,rfl⟩
   · have e : k = te.length := by omega
     subst e
     have hly:=Zt (te.length:Int) ((Za te).length:Int)
     rw [decide_eq_false (by omega)] at hly
     rw [List.take_length] at hB
     obtain ⟨out',lv3,nt3,hap,hA', -⟩:=hA.app ZdU (.sl .full 6 (moC [⟨kd,nu',ro,an,ag,go,true,te.map (rnQ f u)⟩])) (ZdV _) (ZX (by simp only [YA,List.length_cons,List.length_nil];omega) (by decide)) (Zcx _)
     rw [← Zaj, ← hsn] at hA'
     rw [Zfs] at hap
     by_cases hte:te= []
     · subst hte
       have eo:o2= .nils:=ZiT hB
       subst eo
       rw [show slV true 4 (Za (List.map (rnQ f u) []))= .nils from Zk 4] at hap
       repeat' first|refine Jk ?_|refine Js ?_|refine JA ?_|refine Ji ?_|refine JJ ?_|refine Jl ?_|refine Jx ?_|refine Jt ?_|refine Jb ?_ ?_|refine Jo ?_|(apply dK;rfl;rfl;rfl)|refine JB ?_|(apply dAq;rfl;rfl;rfl;rfl;rfl;rfl;(first|assumption|solve_by_elim))|(apply dAp;rfl;rfl;rfl;rfl;rfl;(first|assumption|solve_by_elim);rfl)|refine JD ?_|refine JK ?_|(apply dLn;rfl;rfl;rfl;rfl;rfl)|refine JI ?_|(apply dT (ty:=4);rfl;rfl;rfl;rfl)|(apply dF (ty:=4);rfl;rfl;rfl;rfl)|(apply dB (ty:=4);rfl;rfl;rfl;rfl)|refine Jh ?_|(apply Wp.draw tOk follows;kernel_rfl)|intro hb
       refine DropQ.go [(0,slV b 6 (moC l)),(1,.int .i64 f),(2,.int .i64 u),(7,out'),(8,.int .i64 ((i+1:Nat):Int))] ?_ ?_ rfl rfl ?_
       · exact ⟨rfl,rfl,rfl,rfl,Ze (Zc (n:=i+1) (by omega)),trivial⟩
       · simp [hA'.under,Zj,under]
       · exact LoopI.go (m-1) (by omega) ⟨i+1,_,out',lv3,nt3,by omega,hA',rfl,rfl⟩
     · have hte2 : te.map (rnQ f u) ≠ [] := fun e => hte (by simpa using e)
       obtain ⟨kt,rfl⟩:=Xz hB fun e=>by
        have:=congrArg List.length e
        rw [Zb] at this
        exact hte2 (List.length_eq_zero_iff.1 this)
       rw [QY hte2] at hap
       repeat' first|refine Jk ?_|refine Js ?_|refine JA ?_|refine Ji ?_|refine JJ ?_|refine Jl ?_|refine Jx ?_|refine Jt ?_|refine Jb ?_ ?_|refine Jo ?_|(apply dK;rfl;rfl;rfl)|refine JB ?_|(apply dAq;rfl;rfl;rfl;rfl;rfl;rfl;(first|assumption|solve_by_elim))|(apply dAp;rfl;rfl;rfl;rfl;rfl;(first|assumption|solve_by_elim);rfl)|refine JD ?_|refine JK ?_|(apply dLn;rfl;rfl;rfl;rfl;rfl)|refine JI ?_|(apply dT (ty:=4);rfl;rfl;rfl;rfl)|(apply dF (ty:=4);rfl;rfl;rfl;rfl)|(apply dB (ty:=4);rfl;rfl;rfl;rfl)|refine Jh ?_|(apply Wp.draw tOk follows;kernel_rfl)|intro hb
       refine Znp (es:=6) (el:=[[.int .i64 kd,.int .i64 nu',.int .i64 ro,slV an 1 (Xk ag),.int .i64 go,.sl (.tok kt) 4 (Za (te.map (rnQ f u)))]]) (el':=[[.int .i64 kd,.int .i64 nu',.int .i64 ro,slV an 1 (Xk ag),.int .i64 go,.sl .none 4 (Za (te.map (rnQ f u)))]]) rfl rfl rfl rfl ?_ ?_
       · simp only [Yc, Uq, Yq]
         rfl
       repeat' first|refine Jk ?_|refine Js ?_|refine JA ?_|refine Ji ?_|refine JJ ?_|refine Jl ?_|refine Jx ?_|refine Jt ?_|refine Jb ?_ ?_|refine Jo ?_|(apply dK;rfl;rfl;rfl)|refine JB ?_|(apply dAq;rfl;rfl;rfl;rfl;rfl;rfl;(first|assumption|solve_by_elim))|(apply dAp;rfl;rfl;rfl;rfl;rfl;(first|assumption|solve_by_elim);rfl)|refine JD ?_|refine JK ?_|(apply dLn;rfl;rfl;rfl;rfl;rfl)|refine JI ?_|(apply dT (ty:=4);rfl;rfl;rfl;rfl)|(apply dF (ty:=4);rfl;rfl;rfl;rfl)|(apply dB (ty:=4);rfl;rfl;rfl;rfl)|refine Jh ?_|(apply Wp.draw tOk follows;kernel_rfl)|intro hb
       refine DropQ.go [(0,slV b 6 (moC l)),(1,.int .i64 f),(2,.int .i64 u),(7,out'),(8,.int .i64 ((i+1:Nat):Int))] ?_ ?_ rfl rfl ?_
       · exact ⟨rfl,rfl,rfl,rfl,Ze (Zc (n:=i+1) (by omega)),trivial⟩
       · simp [hA'.under,Zj,under]
       · exact LoopI.go (m-1) (by omega) ⟨i+1,_,out',lv3,nt3,by omega,hA',rfl,rfl⟩
