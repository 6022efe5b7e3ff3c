/-
  Two sessions are exchanged in a trace (the program's text).
-/
import Derived.Test.YtfiflgphoepgeaaGreatDoorPc
import Derived.Test.YtfiflgphoepgeaaGreatDoorOu
set_option maxHeartbeats 0
set_option maxRecDepth 100000
namespace Go.Vm
def rnP (f u:Int) (t:Tm):Tm:=t.rn (nmP f u) true
theorem Zlw (f u:Int) (t:Tm):rnP f u t=if t.chg (nmP f u)=true∧((t.xt (nmP f u)).nf true).2=0 then ((t.xt (nmP f u)).nf true).1 else t.xt (nmP f u):=rfl
theorem WR {h:Tm→Tm} {te:List Tm} {k:Nat} {x:Tm} (hx:te[k]? = some x):((te.take k).map h++te.drop k)[k]? = some x∧((te.take k).map h++te.drop k).set k (h x)=(te.take (k+1)).map h++te.drop (k+1):=by
 have hlt:=Zx hx
 have hl:((te.take k).map h).length=k:=by rw [List.length_map,List.length_take];omega
 constructor
 · rw [List.getElem?_append_right (by omega), hl, Nat.sub_self, ZC hx]
   rfl
 · rw [List.set_append_right _ _ (by omega), hl, Nat.sub_self, ZC hx, List.take_add_one, hx]
   simp
end Go.Vm
namespace Go.Vm.Seat
variable {f u:Int}
open Go.Proofs
theorem ZrZ (h:f<0∨9<f∨u<0∨9<u) (l:List Mo) (b:Bool):∀ H,CallOk E0 Tryz.prog 8 [slV b 6 (moC l),.int .i64 f,.int .i64 u] H (slV b 6 (moC l)) H:=by
 have q1:=Zt f 0
 have q2:=Xw f 9
 have q3:=Zt u 0
 have q4:=Xw u 9
 refine Jw tOk fe8.ok (Zw _ _ _ _ _) ?_
 by_cases p1:f<0
 · rw [decide_eq_true p1] at q1
   repeat' first|refine Jk ?_|refine Ji ?_|refine JJ ?_|refine Jl ?_|refine Jx ?_|refine Jt ?_|refine Jb ?_ ?_|(apply qT (ty:=0);rfl;rfl;rfl)|(apply qF (ty:=0);rfl;rfl;rfl)|refine Jz ?_ ?_|refine Jo ?_|(apply dK;rfl;rfl;rfl)|refine JD ?_|refine JK ?_|(apply dLn;rfl;rfl;rfl;rfl;rfl)|refine JI ?_|(apply dT (ty:=4);rfl;rfl;rfl;rfl)|(apply dF (ty:=4);rfl;rfl;rfl;rfl)|(apply dB (ty:=4);rfl;rfl;rfl;rfl)|(apply dT (ty:=0);rfl;rfl;rfl;rfl)|(apply dF (ty:=0);rfl;rfl;rfl;rfl)|(apply dB (ty:=0);rfl;rfl;rfl;rfl)|refine Jh ?_|(apply Wp.drawS tOk follows;kernel_rfl;rfl)|intro hb
   all_goals exact Zw _ _ _ _ _
 rw [decide_eq_false p1] at q1
 by_cases p2:9<f
 · rw [decide_eq_true p2] at q2
   repeat' first|refine Jk ?_|refine Ji ?_|refine JJ ?_|refine Jl ?_|refine Jx ?_|refine Jt ?_|refine Jb ?_ ?_|(apply qT (ty:=0);rfl;rfl;rfl)|(apply qF (ty:=0);rfl;rfl;rfl)|refine Jz ?_ ?_|refine Jo ?_|(apply dK;rfl;rfl;rfl)|refine JD ?_|refine JK ?_|(apply dLn;rfl;rfl;rfl;rfl;rfl)|refine JI ?_|(apply dT (ty:=4);rfl;rfl;rfl;rfl)|(apply dF (ty:=4);rfl;rfl;rfl;rfl)|(apply dB (ty:=4);rfl;rfl;rfl;rfl)|(apply dT (ty:=0);rfl;rfl;rfl;rfl)|(apply dF (ty:=0);rfl;rfl;rfl;rfl)|(apply dB (ty:=0);rfl;rfl;rfl;rfl)|refine Jh ?_|(apply Wp.drawS tOk follows;kernel_rfl;rfl)|intro hb
   all_goals exact Zw _ _ _ _ _
 rw [decide_eq_false p2] at q2
 by_cases p3:u<0
 · rw [decide_eq_true p3] at q3
   repeat' first|refine Jk ?_|refine Ji ?_|refine JJ ?_|refine Jl ?_|refine Jx ?_|refine Jt ?_|refine Jb ?_ ?_|(apply qT (ty:=0);rfl;rfl;rfl)|(apply qF (ty:=0);rfl;rfl;rfl)|refine Jz ?_ ?_|refine Jo ?_|(apply dK;rfl;rfl;rfl)|refine JD ?_|refine JK ?_|(apply dLn;rfl;rfl;rfl;rfl;rfl)|refine JI ?_|(apply dT (ty:=4);rfl;rfl;rfl;rfl)|(apply dF (ty:=4);rfl;rfl;rfl;rfl)|(apply dB (ty:=4);rfl;rfl;rfl;rfl)|(apply dT (ty:=0);rfl;rfl;rfl;rfl)|(apply dF (ty:=0);rfl;rfl;rfl;rfl)|(apply dB (ty:=0);rfl;rfl;rfl;rfl)|refine Jh ?_|(apply Wp.drawS tOk follows;kernel_rfl;rfl)|intro hb
   all_goals exact Zw _ _ _ _ _
 rw [decide_eq_false p3] at q3
 rw [decide_eq_true (by omega)] at q4
 repeat' first|refine Jk ?_|refine Ji ?_|refine JJ ?_|refine Jl ?_|refine Jx ?_|refine Jt ?_|refine Jb ?_ ?_|(apply qT (ty:=0);rfl;rfl;rfl)|(apply qF (ty:=0);rfl;rfl;rfl)|refine Jz ?_ ?_|refine Jo ?_|(apply dK;rfl;rfl;rfl)|refine JD ?_|refine JK ?_|(apply dLn;rfl;rfl;rfl;rfl;rfl)|refine JI ?_|(apply dT (ty:=4);rfl;rfl;rfl;rfl)|(apply dF (ty:=4);rfl;rfl;rfl;rfl)|(apply dB (ty:=4);rfl;rfl;rfl;rfl)|(apply dT (ty:=0);rfl;rfl;rfl;rfl)|(apply dF (ty:=0);rfl;rfl;rfl;rfl)|(apply dB (ty:=0);rfl;rfl;rfl;rfl)|refine Jh ?_|(apply Wp.drawS tOk follows;kernel_rfl;rfl)|intro hb
 all_goals exact Zw _ _ _ _ _
theorem Zso (hf:0≤f∧f≤9) (hu:0≤u∧u≤9) (b:Bool):∀ H,CallOk E0 Tryz.prog 8 [slV b 6 (moC []),.int .i64 f,.int .i64 u] H (slV b 6 (moC [])) H:=by
 have q1:=Zt f 0
 have q2:=Xw f 9
 have q3:=Zt u 0
 have q4:=Xw u 9
 rw [decide_eq_false (by omega)] at q1 q2 q3 q4
 have hc:=c9 (l:=[]) (by simp) b
 have hz:=Zt ((0:Nat):Int) ((moC []).length:Int)
 rw [decide_eq_false (by simp [moC])] at hz
 refine Jw tOk fe8.ok (Zw _ _ _ _ _) ?_
 repeat' first|refine Jk ?_|refine Jc (hc _) ?_|refine Ji ?_|refine JJ ?_|refine Jl ?_|refine Jx ?_|refine Jt ?_|refine Jb ?_ ?_|(apply qT (ty:=0);rfl;rfl;rfl)|(apply qF (ty:=0);rfl;rfl;rfl)|refine Jz ?_ ?_|refine Jo ?_|(apply dK;rfl;rfl;rfl)|refine Jd (hc _) ?_|refine JD ?_|refine JK ?_|(apply dLn;rfl;rfl;rfl;rfl;rfl)|refine JI ?_|(apply dT (ty:=4);rfl;rfl;rfl;rfl)|(apply dF (ty:=4);rfl;rfl;rfl;rfl)|(apply dB (ty:=4);rfl;rfl;rfl;rfl)|(apply dT (ty:=0);rfl;rfl;rfl;rfl)|(apply dF (ty:=0);rfl;rfl;rfl;rfl)|(apply dB (ty:=0);rfl;rfl;rfl;rfl)|refine Jh ?_|(apply Wp.drawS tOk follows;kernel_rfl;rfl)|intro hb
 refine Wp.loop ?_
 repeat' first|refine Jk ?_|refine Ji ?_|refine JJ ?_|refine Jl ?_|refine Jx ?_|refine Jt ?_|refine Jb ?_ ?_|(apply qT (ty:=0);rfl;rfl;rfl)|(apply qF (ty:=0);rfl;rfl;rfl)|refine Jz ?_ ?_|refine Jo ?_|(apply dK;rfl;rfl;rfl)|refine JD ?_|refine JK ?_|(apply dLn;rfl;rfl;rfl;rfl;rfl)|refine JI ?_|(apply dT (ty:=4);rfl;rfl;rfl;rfl)|(apply dF (ty:=4);rfl;rfl;rfl;rfl)|(apply dB (ty:=4);rfl;rfl;rfl;rfl)|(apply dT (ty:=0);rfl;rfl;rfl;rfl)|(apply dF (ty:=0);rfl;rfl;rfl;rfl)|(apply dB (ty:=0);rfl;rfl;rfl;rfl)|refine Jh ?_|(apply Wp.drawS tOk follows;kernel_rfl;rfl)|intro hb
 refine LoopQ.exit ?_
 repeat' first|refine Jk ?_|refine Ji ?_|refine JJ ?_|refine Jl ?_|refine Jx ?_|refine Jt ?_|refine Jb ?_ ?_|(apply qT (ty:=0);rfl;rfl;rfl)|(apply qF (ty:=0);rfl;rfl;rfl)|refine Jz ?_ ?_|refine Jo ?_|(apply dK;rfl;rfl;rfl)|refine JD ?_|refine JK ?_|(apply dLn;rfl;rfl;rfl;rfl;rfl)|refine JI ?_|(apply dT (ty:=4);rfl;rfl;rfl;rfl)|(apply dF (ty:=4);rfl;rfl;rfl;rfl)|(apply dB (ty:=4);rfl;rfl;rfl;rfl)|(apply dT (ty:=0);rfl;rfl;rfl;rfl)|(apply dF (ty:=0);rfl;rfl;rfl;rfl)|(apply dB (ty:=0);rfl;rfl;rfl;rfl)|refine Jh ?_|(apply Wp.drawS tOk follows;kernel_rfl;rfl)|intro hb
 all_goals exact Zw _ _ _ _ _
theorem Zr9 (hf : 0 ≤ f ∧ f ≤ 9) (hu : 0 ≤ u ∧ u ≤ 9) {l : List Mo} (hl : TrOk l) (hne : l ≠ []) (b0 : Bool) :
  ∃ cs bx,CallOk E0 Tryz.prog 8 [slV b0 6 (moC l),.int .i64 f,.int .i64 u] hNil (.own 1 6 0 l.length) ⟨bx,0,[],0⟩∧cs.length=l.length∧bx[1]? = some (.cells 6 cs)∧∀ (j:Nat) (m:Mo) (c:List PV),l[j]? = some m→cs[j]? = some c→MoW bx (m.rn f u (rnP f u)) c:=by
 have q1:=Zt f 0
 have q2:=Xw f 9
 have q3:=Zt u 0
 have q4:=Xw u 9
 rw [decide_eq_false (by omega)] at q1 q2 q3 q4
 have h420:=hl.len
 have hcl0:=Zo1 hne (by omega) ⟨[.cells 2 [[.int .i64 f,.int .i64 u]]],0,[],0⟩
 rw [← ZiK hne b0] at hcl0
 have hml:=XE l
 have key:∃ r H1,CallOk E0 Tryz.prog 8 [slV b0 6 (moC l),.int .i64 f,.int .i64 u] hNil r H1∧∃ cs bx,r= .own 1 6 0 l.length∧H1=⟨bx,0,[],0⟩∧cs.length=l.length∧bx[1]? = some (.cells 6 cs)∧∀ (j:Nat) (m:Mo) (c:List PV),l[j]? = some m→cs[j]? = some c→MoW bx (m.rn f u (rnP f u)) c:=by
  refine ZY (own:=fun _=>false) tOk fe8.ok ?_
  refine Wp.seq ?_
  repeat' first|refine Jk ?_|refine Jc hcl0 ?_|refine Ji ?_|refine JJ ?_|refine Jl ?_|refine Jx ?_|refine Jt ?_|refine Jb ?_ ?_|(apply qT (ty:=0);rfl;rfl;rfl)|(apply qF (ty:=0);rfl;rfl;rfl)|refine Jz ?_ ?_|refine Jo ?_|(apply dK;rfl;rfl;rfl)|refine Jd hcl0 ?_|refine JD ?_|refine JK ?_|(apply dLn;rfl;rfl;rfl;rfl;rfl)|refine JI ?_|(apply dT (ty:=4);rfl;rfl;rfl;rfl)|(apply dF (ty:=4);rfl;rfl;rfl;rfl)|(apply dB (ty:=4);rfl;rfl;rfl;rfl)|(apply dT (ty:=0);rfl;rfl;rfl;rfl)|(apply dF (ty:=0);rfl;rfl;rfl;rfl)|(apply dB (ty:=0);rfl;rfl;rfl;rfl)|refine Jh ?_|(apply Wp.drawS tOk follows;kernel_rfl;rfl)|intro hb
  refine Wp.while (fun m tm H => ∃ (i : Nat) (base : TM) (bx : List Box) (cs : List (List PV)), i + m = l.length ∧ cs.length = l.length ∧ bx[0]? = some (.cells 2 [[.int .i64 f, .int .i64 u]]) ∧ bx[1]? = some (.cells 6 cs) ∧
    (∀ (j:Nat) (m:Mo) (c:List PV),j<i→l[j]? = some m→cs[j]? = some c→MoW bx (m.rn f u (rnP f u)) c)∧(∀ (j:Nat) (m:Mo),i≤j→l[j]? = some m→cs[j]? = some m.cells)∧
    tm=ovr base [(7,.ptr 0 2 0 0),(8,.own 1 6 0 l.length),(37,slV b0 6 (moC l)),(38,.int .i64 (l.length:Int)),(39,.int .i64 (i:Int))]∧H=⟨bx,0,[],0⟩)
   (fun m tm H hI=>?_) l.length _ _ ⟨0,_,_,moC l,by omega,hml,rfl,rfl,fun j m c h=>absurd h (by omega),fun j m _ h=>WH h,Zf ⟨rfl,rfl,rfl,Zd (by rw [hml]),rfl,trivial⟩,rfl⟩
  clear hcl0 q1 q2 q3 q4
  obtain ⟨i,base,bx,cs,hi,hcs,v0,v1,hA,hB,rfl,rfl⟩:=hI
  by_cases hlt:i<l.length
  rotate_left
  · have e : i = l.length := by omega
    subst e
    have hlx:=Zt (l.length:Int) (l.length:Int)
    rw [decide_eq_false (by omega)] at hlx
    repeat' first|refine Jk ?_|refine Ji ?_|refine JJ ?_|refine Jl ?_|refine Jx ?_|refine Jt ?_|refine Jb ?_ ?_|(apply qT (ty:=0);rfl;rfl;rfl)|(apply qF (ty:=0);rfl;rfl;rfl)|refine Jz ?_ ?_|refine Jo ?_|(apply dK;rfl;rfl;rfl)|refine JD ?_|refine JK ?_|(apply dLn;rfl;rfl;rfl;rfl;rfl)|refine JI ?_|(apply dT (ty:=4);rfl;rfl;rfl;rfl)|(apply dF (ty:=4);rfl;rfl;rfl;rfl)|(apply dB (ty:=4);rfl;rfl;rfl;rfl)|(apply dT (ty:=0);rfl;rfl;rfl;rfl)|(apply dF (ty:=0);rfl;rfl;rfl;rfl)|(apply dB (ty:=0);rfl;rfl;rfl;rfl)|refine Jh ?_|(apply Wp.drawS tOk follows;kernel_rfl;rfl)|intro hb
    exact RetR.ret rfl ⟨cs,bx,rfl,rfl,hcs,v1,fun j m c h1' h2'=>hA j m c (Zx h1') h1' h2'⟩
  obtain ⟨x,hx⟩:∃ x,l[i]? = some x:=⟨l[i],by simp⟩
  have hm:x∈l:=List.mem_of_getElem? hx
  have htl:=hl.tl x hm
  have hts:=hl.ts x hm
  have hlx:=Zt (i:Int) (l.length:Int)
  rw [decide_eq_true (by omega)] at hlx
  have hj:=WH hx
  have hci:=hB i x (Nat.le_refl _) hx
  have hA':=fun (m:Mo) (c:List PV) (j:Nat) (h:j<i)=>hA j m c h
  have hrn:x.rn f u (rnP f u)=⟨x.kind,if x.kind≠6 then Yb f u x.num else x.num,x.role,x.an,x.agents,x.goal,x.tn,x.terms.map (rnP f u)⟩:=rfl
  obtain ⟨kd,nu,ro,an,ag,go,tn,te⟩:=x
  simp only [Mo.cells] at hj hci htl hts hrn
  have hci:cs[i]? = some (mcl kd nu ro (slV an 1 (Y1 ag)) go (slV tn 4 (Za te))):=hci
  obtain ⟨tv0,htv⟩:∃ tv0,tv0=slV tn 4 (Za te):=⟨_,rfl⟩
  obtain ⟨nu',hnu'⟩:∃ nu',nu'=if kd≠6 then Yb f u nu else nu:=⟨_,rfl⟩
  rw [← hnu'] at hrn
  have hia:=Zpr (id:=1) hlt
  obtain ⟨a,ea⟩:∃ a,a=bx.length:=⟨_,rfl⟩
  have hal:∀ ρ,aOp E0 false ρ (.alloc 34) ⟨bx,0,[],0⟩=some (.ptr bx.length 6 0 0,⟨bx++ [.cells 6 [zcM]],0,[],0⟩):=fun ρ=>rfl
  have hwr:=ZlK bx kd nu ro go (slV an 1 (Y1 ag)) tv0
  obtain ⟨c1,ec1⟩:∃ c1,c1=bx++ [.cells 6 [mcl kd nu ro (slV an 1 (Y1 ag)) go tv0]]:=⟨_,rfl⟩
  rw [← ec1, ← ea] at hwr
  rw [← ea] at hal
  rw [← htv] at hj hci
  have r0:c1[0]? = some (.cells 2 [[.int .i64 f,.int .i64 u]]):=by rw [ec1];exact Zj v0
  have r1:c1[1]? = some (.cells 6 cs):=by rw [ec1];exact Zj v1
  have ra:c1[a]? = some (.cells 6 [mcl kd nu ro (slV an 1 (Y1 ag)) go tv0]):=by rw [ec1,ea];exact ZZ _ _
  have rl:c1.length=a+1:=by rw [ec1,ea,List.length_append];rfl
  have ro':∀ j,j<a→c1[j]? = bx[j]? :=fun j h=>by rw [ec1,List.getElem?_append_left (by omega)]
  have ha2:2≤a:=by have:=Zx v1;omega
  have hldk:=ZoU (i:=0) (off:=0) (v:=kd) (c:=mcl kd nu ro (slV an 1 (Y1 ag)) go tv0) ra rfl rfl
  have hldn:=ZoU (i:=0) (off:=1) (v:=nu) (c:=mcl kd nu ro (slV an 1 (Y1 ag)) go tv0) ra rfl rfl
  have hsw:=Zby r0
  have hnum:=c18 f u nu
  have hk6:=Ux kd 6
  have hw1:=ZqJ (nu':=Yb f u nu) r1 hci
  obtain ⟨c2, cs2, hwc2, hec2, s0, s1, sa, sl, so, sci, sne, scl⟩ : ∃ c2 cs2, (kd ≠ 6 → Heap.wr ⟨c1, 0, [], 0⟩ (.ptr 1 6 i 1) [.int .i64 (Yb f u nu)] = some ⟨c2, 0, [], 0⟩) ∧ (kd = 6 → c2 = c1) ∧
    c2[0]? = some (.cells 2 [[.int .i64 f,.int .i64 u]])∧c2[1]? = some (.cells 6 cs2)∧c2[a]? = some (.cells 6 [mcl kd nu ro (slV an 1 (Y1 ag)) go tv0])∧c2.length=a+1∧(∀ j,j≠1→c2[j]? = c1[j]?)∧
    cs2[i]? = some (mcl kd nu' ro (slV an 1 (Y1 ag)) go tv0)∧(∀ j,j≠i→cs2[j]? = cs[j]?)∧cs2.length=l.length:=by
   by_cases h6:kd=6
   · rw [if_neg (not_not_intro h6)] at hnu'
     exact ⟨c1,cs,fun h=>absurd h6 h,fun _=>rfl,r0,r1,ra,rl,fun _ _=>rfl,by rw [hnu'];exact hci,fun _ _=>rfl,hcs⟩
   · rw [if_pos h6] at hnu'
     exact ⟨_,_,fun _=>hw1,fun h=>absurd h h6,Ye (by decide) r0,Z4 r1,Ye (by omega) ra,by rw [List.length_set];exact rl,fun j h=>List.getElem?_set_ne (Ne.symm h),by rw [hnu'];exact Z4 hci,fun j h=>List.getElem?_set_ne (Ne.symm h),by rw [List.length_set];exact hcs⟩
  have hlt1:=Qo (i:=0) (off:=5) (v:=tv0) (c:=mcl kd nu ro (slV an 1 (Y1 ag)) go tv0) sa rfl rfl
  clear hw1 hnu'
  by_cases hte:te= []
  · -- no terms
    subst hte
    have hcl:CallOk E0 Tryz.prog 19 [tv0] ⟨c2,0,[],0⟩ tv0 ⟨c2,0,[],0⟩:=by
     rw [htv]
     cases tn
     · rw [show slV false 4 (Za [])= .sl .none 4 [] from Zq 4];exact ZgX _
     · rw [show slV true 4 (Za [])= .nils from Zh 4];exact ZkW _
    have hw5:=Zoq (tv':=tv0) s1 sci
    obtain ⟨c4,ec4⟩:∃ c4,c4=c2.set 1 (.cells 6 (cs2.set i (mcl kd nu' ro (slV an 1 (Y1 ag)) go tv0))):=⟨_,rfl⟩
    rw [← ec4] at hw5
    have xa:c4[a]? = some (.cells 6 [mcl kd nu ro (slV an 1 (Y1 ag)) go tv0]):=by rw [ec4];exact Ye (by omega) sa
    have hlt2:=Qo (i:=0) (off:=5) (v:=tv0) (c:=mcl kd nu ro (slV an 1 (Y1 ag)) go tv0) xa rfl rfl
    have x0:c4[0]? = some (.cells 2 [[.int .i64 f,.int .i64 u]]):=by rw [ec4];exact Ye (by decide) s0
    have x1:c4[1]? = some (.cells 6 (cs2.set i (mcl kd nu' ro (slV an 1 (Y1 ag)) go tv0))):=by rw [ec4];exact Z4 s1
    have xo:∀ k,k<bx.length→k≠1→c4[k]? = bx[k]? :=fun k h1' h2'=>by
     rw [ec4,List.getElem?_set_ne (Ne.symm h2'),so k h2',ro' k (by omega)]
    have hnx:(∀ (j:Nat) (m:Mo) (c:List PV),j<i+1→l[j]? = some m→(cs2.set i (mcl kd nu' ro (slV an 1 (Y1 ag)) go tv0))[j]? = some c→MoW c4 (m.rn f u (rnP f u)) c)∧(∀ (j:Nat) (m:Mo),i+1≤j→l[j]? = some m→(cs2.set i (mcl kd nu' ro (slV an 1 (Y1 ag)) go tv0))[j]? = some m.cells):=by
     refine ⟨fun j m c h1' h2' h3'=>?_,fun j m h1' h2'=>?_⟩
     · by_cases hji : j = i
       · subst hji
         rw [hx] at h2'
         cases h2'
         rw [Z4 sci] at h3'
         cases h3'
         rw [hrn]
         exact ⟨tv0,.inl ⟨rfl,htv⟩,rfl⟩
       · rw [List.getElem?_set_ne (Ne.symm hji), sne j hji] at h3'
         exact (hA j m c (by omega) h2' h3').mono v1 xo
     · rw [List.getElem?_set_ne (by omega), sne j (by omega)]
       exact hB j m (by omega) h2'
    have hz0:(Za []).length=0:=rfl
    have hz:=Zt ((0:Nat):Int) ((0:Nat):Int)
    rw [decide_eq_false (by omega)] at hz
    clear hA hB hA' hrn hts so sne ro' xo
    rcases (show tv0= .nils∨tv0= .sl .none 4 [] by
     rw [htv]
     cases tn
     · exact .inr (Zq 4)
     · exact .inl (Zh 4)) with etv|etv
    all_goals
     rw [etv] at hj hwr hlt1 hlt2 hcl hw5
     simp only [mcl] at hwr
     by_cases h6:kd=6
     · rw [decide_eq_true h6, Bool.not_true] at hk6
       have ecc:=hec2 h6
       subst ecc
       clear hwc2
       repeat' first|refine Jk ?_|refine Jc hcl ?_|(apply RegQ.rAl;rfl;rfl;assumption)|refine Ji ?_|refine JJ ?_|(apply qLe;rfl;rfl;rfl;assumption;exact IsV.any _)|(apply qLd;rfl;rfl;rfl;assumption;exact IsV.any _)|refine Jl ?_|refine Jx ?_|refine Jt ?_|refine Jb ?_ ?_|(apply qT (ty:=0);rfl;rfl;rfl)|(apply qF (ty:=0);rfl;rfl;rfl)|refine Jz ?_ ?_|refine Jo ?_|(apply dK;rfl;rfl;rfl)|refine Jd hcl ?_|refine JD ?_|refine JK ?_|(apply dLe;rfl;rfl;rfl;assumption;exact IsV.any _;rfl)|(apply dLd;rfl;rfl;rfl;assumption;exact IsV.any _;(first|rfl|(show Nat.blt _ _=true;first|assumption|(simp [Nat.blt];done))))|(apply dLn;rfl;rfl;rfl;rfl;rfl)|refine JI ?_|(apply dT (ty:=4);rfl;rfl;rfl;rfl)|(apply dF (ty:=4);rfl;rfl;rfl;rfl)|(apply dB (ty:=4);rfl;rfl;rfl;rfl)|(apply dT (ty:=0);rfl;rfl;rfl;rfl)|(apply dF (ty:=0);rfl;rfl;rfl;rfl)|(apply dB (ty:=0);rfl;rfl;rfl;rfl)|(apply dSt;rfl;rfl;rfl;rfl;exact IsL.n;rfl;(first|rfl|assumption|(simp only [List.all_cons,List.all_nil,ZI,Bool.and_true];rfl));assumption;exact IsH.mkN;assumption;assumption;rfl)|refine Jh ?_|(apply Wp.drawS tOk follows;kernel_rfl;rfl)|intro hb
       refine Wp.loop ?_
       repeat' first|refine Jk ?_|refine Ji ?_|refine JJ ?_|refine Jl ?_|refine Jx ?_|refine Jt ?_|refine Jb ?_ ?_|(apply qT (ty:=0);rfl;rfl;rfl)|(apply qF (ty:=0);rfl;rfl;rfl)|refine Jz ?_ ?_|refine Jo ?_|(apply dK;rfl;rfl;rfl)|refine JD ?_|refine JK ?_|(apply dLn;rfl;rfl;rfl;rfl;rfl)|refine JI ?_|(apply dT (ty:=4);rfl;rfl;rfl;rfl)|(apply dF (ty:=4);rfl;rfl;rfl;rfl)|(apply dB (ty:=4);rfl;rfl;rfl;rfl)|(apply dT (ty:=0);rfl;rfl;rfl;rfl)|(apply dF (ty:=0);rfl;rfl;rfl;rfl)|(apply dB (ty:=0);rfl;rfl;rfl;rfl)|refine Jh ?_|(apply Wp.drawS tOk follows;kernel_rfl;rfl)|intro hb
       refine LoopQ.exit ?_
       repeat' first|refine Jk ?_|refine Ji ?_|refine JJ ?_|refine Jl ?_|refine Jx ?_|refine Jt ?_|refine Jb ?_ ?_|(apply qT (ty:=0);rfl;rfl;rfl)|(apply qF (ty:=0);rfl;rfl;rfl)|refine Jz ?_ ?_|refine Jo ?_|(apply dK;rfl;rfl;rfl)|refine JD ?_|refine JK ?_|(apply dLn;rfl;rfl;rfl;rfl;rfl)|refine JI ?_|(apply dT (ty:=4);rfl;rfl;rfl;rfl)|(apply dF (ty:=4);rfl;rfl;rfl;rfl)|(apply dB (ty:=4);rfl;rfl;rfl;rfl)|(apply dT (ty:=0);rfl;rfl;rfl;rfl)|(apply dF (ty:=0);rfl;rfl;rfl;rfl)|(apply dB (ty:=0);rfl;rfl;rfl;rfl)|refine Jh ?_|(apply Wp.drawS tOk follows;kernel_rfl;rfl)|intro hb
       exact LoopI.go (m-1) (by omega) ⟨i+1,_,c4,_,by omega,by rw [List.length_set];exact scl,x0,x1,hnx.1,hnx.2,Zf ⟨rfl,rfl,rfl,rfl,Zd (Zc (n:=i+1) (by omega)),trivial⟩,rfl⟩
     · rw [decide_eq_false h6, Bool.not_false] at hk6
       have hwc2:=hwc2 h6
       repeat' first|refine Jk ?_|refine Jc hcl ?_|refine Jc (hnum _) ?_|(apply RegQ.rAl;rfl;rfl;assumption)|refine Ji ?_|refine JJ ?_|(apply qLe;rfl;rfl;rfl;assumption;exact IsV.any _)|(apply qLd;rfl;rfl;rfl;assumption;exact IsV.any _)|refine Jl ?_|refine Jx ?_|refine Jt ?_|refine Jb ?_ ?_|(apply qT (ty:=0);rfl;rfl;rfl)|(apply qF (ty:=0);rfl;rfl;rfl)|refine Jz ?_ ?_|refine Jo ?_|(apply dK;rfl;rfl;rfl)|refine Jd hcl ?_|refine Jd (hnum _) ?_|refine JD ?_|refine JK ?_|(apply dLe;rfl;rfl;rfl;assumption;exact IsV.any _;rfl)|(apply dLd;rfl;rfl;rfl;assumption;exact IsV.any _;(first|rfl|(show Nat.blt _ _=true;first|assumption|(simp [Nat.blt];done))))|(apply dLn;rfl;rfl;rfl;rfl;rfl)|refine JI ?_|(apply dT (ty:=4);rfl;rfl;rfl;rfl)|(apply dF (ty:=4);rfl;rfl;rfl;rfl)|(apply dB (ty:=4);rfl;rfl;rfl;rfl)|(apply dT (ty:=0);rfl;rfl;rfl;rfl)|(apply dF (ty:=0);rfl;rfl;rfl;rfl)|(apply dB (ty:=0);rfl;rfl;rfl;rfl)|(apply dSt;rfl;rfl;rfl;rfl;exact IsL.n;rfl;(first|rfl|assumption|(simp only [List.all_cons,List.all_nil,ZI,Bool.and_true];rfl));assumption;exact IsH.mkN;assumption;assumption;rfl)|refine Jh ?_|(apply Wp.drawS tOk follows;kernel_rfl;rfl)|intro hb
       refine Wp.loop ?_
       repeat' first|refine Jk ?_|refine Ji ?_|refine JJ ?_|refine Jl ?_|refine Jx ?_|refine Jt ?_|refine Jb ?_ ?_|(apply qT (ty:=0);rfl;rfl;rfl)|(apply qF (ty:=0);rfl;rfl;rfl)|refine Jz ?_ ?_|refine Jo ?_|(apply dK;rfl;rfl;rfl)|refine JD ?_|refine JK ?_|(apply dLn;rfl;rfl;rfl;rfl;rfl)|refine JI ?_|(apply dT (ty:=4);rfl;rfl;rfl;rfl)|(apply dF (ty:=4);rfl;rfl;rfl;rfl)|(apply dB (ty:=4);rfl;rfl;rfl;rfl)|(apply dT (ty:=0);rfl;rfl;rfl;rfl)|(apply dF (ty:=0);rfl;rfl;rfl;rfl)|(apply dB (ty:=0);rfl;rfl;rfl;rfl)|refine Jh ?_|(apply Wp.drawS tOk follows;kernel_rfl;rfl)|intro hb
       refine LoopQ.exit ?_
       repeat' first|refine Jk ?_|refine Ji ?_|refine JJ ?_|refine Jl ?_|refine Jx ?_|refine Jt ?_|refine Jb ?_ ?_|(apply qT (ty:=0);rfl;rfl;rfl)|(apply qF (ty:=0);rfl;rfl;rfl)|refine Jz ?_ ?_|refine Jo ?_|(apply dK;rfl;rfl;rfl)|refine JD ?_|refine JK ?_|(apply dLn;rfl;rfl;rfl;rfl;rfl)|refine JI ?_|(apply dT (ty:=4);rfl;rfl;rfl;rfl)|(apply dF (ty:=4);rfl;rfl;rfl;rfl)|(apply dB (ty:=4);rfl;rfl;rfl;rfl)|(apply dT (ty:=0);rfl;rfl;rfl;rfl)|(apply dF (ty:=0);rfl;rfl;rfl;rfl)|(apply dB (ty:=0);rfl;rfl;rfl;rfl)|refine Jh ?_|(apply Wp.drawS tOk follows;kernel_rfl;rfl)|intro hb
       exact LoopI.go (m-1) (by omega) ⟨i+1,_,c4,_,by omega,by rw [List.length_set];exact scl,x0,x1,hnx.1,hnx.2,Zf ⟨rfl,rfl,rfl,rfl,Zd (Zc (n:=i+1) (by omega)),trivial⟩,rfl⟩
  · -- some terms
    have htn:=ZeW hte tn
    have hcl:=ZkL hte (by omega) ⟨c2,0,[],0⟩
    obtain ⟨kk,ekk⟩:∃ kk,kk=c2.length:=⟨_,rfl⟩
    obtain ⟨c3,ec3⟩:∃ c3,c3=c2++ [.cells 4 (Za te)]:=⟨_,rfl⟩
    have hcl:CallOk E0 Tryz.prog 19 [slV tn 4 (Za te)] ⟨c2,0,[],0⟩ (.own kk 4 0 te.length) ⟨c3,0,[],0⟩:=by rw [ekk,ec3,htn];exact hcl
    have t1:c3[1]? = some (.cells 6 cs2):=by rw [ec3];exact Zj s1
    have hw5:=Zoq (tv':= .own kk 4 0 te.length) t1 sci
    obtain ⟨cs4,ecs4⟩:∃ cs4,cs4=cs2.set i (mcl kd nu' ro (slV an 1 (Y1 ag)) go (.own kk 4 0 te.length)):=⟨_,rfl⟩
    rw [← ecs4] at hw5
    obtain ⟨c4,ec4⟩:∃ c4,c4=c3.set 1 (.cells 6 cs4):=⟨_,rfl⟩
    rw [← ec4] at hw5
    have hkk:kk=a+1:=by rw [ekk];exact sl
    have x0:c4[0]? = some (.cells 2 [[.int .i64 f,.int .i64 u]]):=by rw [ec4,ec3];exact Ye (by decide) (Zj s0)
    have x1:c4[1]? = some (.cells 6 cs4):=by rw [ec4];exact Z4 t1
    have xk:c4[kk]? = some (.cells 4 (Za te)):=by rw [ec4,ec3];exact Ye (by omega) (by rw [ekk];exact ZZ _ _)
    have xa:c4[a]? = some (.cells 6 [mcl kd nu ro (slV an 1 (Y1 ag)) go tv0]):=by rw [ec4,ec3];exact Ye (by omega) (Zj sa)
    have xl:c4.length=a+2:=by rw [ec4,List.length_set,ec3,List.length_append,sl];rfl
    have xo:∀ k,k<bx.length→k≠1→c4[k]? = bx[k]? :=fun k h1' h2'=>by
     rw [ec4,List.getElem?_set_ne (Ne.symm h2'),ec3,List.getElem?_append_left (by omega),so k h2',ro' k (by omega)]
    have hlt2:=Qo (i:=0) (off:=5) (v:=tv0) (c:=mcl kd nu ro (slV an 1 (Y1 ag)) go tv0) xa rfl rfl
    have hc4:cs4[i]? = some (mcl kd nu' ro (slV an 1 (Y1 ag)) go (.own kk 4 0 te.length)):=by rw [ecs4];exact Z4 sci
    have hc4l:cs4.length=l.length:=by rw [ecs4,List.length_set];exact scl
    have hc4o:∀ j,j≠i→cs4[j]? = cs[j]? :=fun j h=>by rw [ecs4,List.getElem?_set_ne (Ne.symm h)];exact sne j h
    have hfin : ∀ b : List Box, b[kk]? = some (.cells 4 (Za (te.map (rnP f u)))) → (∀ j, j < c4.length → j ≠ kk → j ≠ 1 → b[j]? = c4[j]?) →
      (∀ (j:Nat) (m:Mo) (c:List PV),j<i+1→l[j]? = some m→cs4[j]? = some c→MoW b (m.rn f u (rnP f u)) c)∧(∀ (j:Nat) (m:Mo),i+1≤j→l[j]? = some m→cs4[j]? = some m.cells):=fun b hb1 hb2=>by
     refine ⟨fun j m c h1' h2' h3'=>?_,fun j m h1' h2'=>?_⟩
     · by_cases hji : j = i
       · subst hji
         rw [hx] at h2'
         cases h2'
         rw [hc4] at h3'
         cases h3'
         rw [hrn]
         refine ⟨_,.inr ⟨fun e=>hte (by simpa using e),kk,?_,hb1⟩,rfl⟩
         rw [List.length_map]
       · rw [hc4o j hji] at h3'
         exact (hA j m c (by omega) h2' h3').mono v1 fun k q1 q2=>by rw [hb2 k (by omega) (by omega) q2];exact xo k q1 q2
     · rw [hc4o j (by omega)]
       exact hB j m (by omega) h2'
    have hcl4:=Zb te
    clear hA hB hA' hrn so sne ro' xo hc4o ec1 ec3 ec4 ecs4
    rw [htv] at hj hwr hlt1 hlt2
    simp only [mcl] at hwr
    by_cases h6:kd=6
    · rw [decide_eq_true h6, Bool.not_true] at hk6
      have ecc:=hec2 h6
      subst ecc
      clear hwc2
      repeat' first|refine Jk ?_|refine Jc hcl ?_|(apply RegQ.rAl;rfl;rfl;assumption)|refine Ji ?_|refine JJ ?_|(apply qLe;rfl;rfl;rfl;assumption;exact IsV.any _)|(apply qLd;rfl;rfl;rfl;assumption;exact IsV.any _)|refine Jl ?_|refine Jx ?_|refine Jt ?_|refine Jb ?_ ?_|(apply qT (ty:=0);rfl;rfl;rfl)|(apply qF (ty:=0);rfl;rfl;rfl)|refine Jz ?_ ?_|refine Jo ?_|(apply dK;rfl;rfl;rfl)|refine Jd hcl ?_|refine JD ?_|refine JK ?_|(apply dLe;rfl;rfl;rfl;assumption;exact IsV.any _;rfl)|(apply dLd;rfl;rfl;rfl;assumption;exact IsV.any _;(first|rfl|(show Nat.blt _ _=true;first|assumption|(simp [Nat.blt];done))))|(apply dLn;rfl;rfl;rfl;rfl;rfl)|refine JI ?_|(apply dT (ty:=4);rfl;rfl;rfl;rfl)|(apply dF (ty:=4);rfl;rfl;rfl;rfl)|(apply dB (ty:=4);rfl;rfl;rfl;rfl)|(apply dT (ty:=0);rfl;rfl;rfl;rfl)|(apply dF (ty:=0);rfl;rfl;rfl;rfl)|(apply dB (ty:=0);rfl;rfl;rfl;rfl)|(apply dSt;rfl;rfl;rfl;rfl;exact IsL.n;rfl;(first|rfl|assumption|(simp only [List.all_cons,List.all_nil,ZI,Bool.and_true];rfl));assumption;exact IsH.mkN;assumption;assumption;rfl)|refine Jh ?_|(apply Wp.drawS tOk follows;kernel_rfl;rfl)|intro hb
      refine Wp.while (fun m2 tm H => ∃ (k : Nat) (base : TM) (b : List Box), k + m2 = te.length ∧ c4.length ≤ b.length ∧ b[0]? = some (.cells 2 [[.int .i64 f, .int .i64 u]]) ∧ b[1]? = some (.cells 6 cs4) ∧ b[kk]? = some (.cells 4 (Za ((te.take k).map (rnP f u) ++ te.drop k))) ∧
        (∀ j,j<c4.length→j≠kk→b[j]? = c4[j]?)∧
        tm=ovr base [(7,.ptr 0 2 0 0),(8,.own 1 6 0 l.length),(9,.int .i64 (i:Int)),(37,slV b0 6 (moC l)),(38,.int .i64 (l.length:Int)),(39,.int .i64 (i:Int)),(63,slV tn 4 (Za te)),(64,.int .i64 (te.length:Int)),(65,.int .i64 (k:Int))]∧H=⟨b,0,[],0⟩)
       (fun m2 tm H hI=>?_) te.length _ _ ⟨0,_,c4,by omega,Nat.le_refl _,x0,x1,by rw [List.take_zero,List.map_nil,List.nil_append,List.drop_zero];exact xk,fun _ _ _=>rfl,Zf ⟨rfl,rfl,rfl,rfl,rfl,rfl,rfl,Zd (by rw [hcl4]),rfl,trivial⟩,rfl⟩
      clear hwr hal hldk hldn hsw hcl hw5 hlt1 hlt2
      obtain ⟨k,base2,b,hk,hbl,w0,w1,wk,hO,rfl,rfl⟩:=hI
      by_cases hltk:k<te.length
      · obtain ⟨y, hy⟩ : ∃ y, te[k]? = some y := ⟨te[k], by simp⟩
        obtain ⟨yo,yn,ys⟩:=hts y (List.mem_of_getElem? hy)
        have hly:=Zt (k:Int) (te.length:Int)
        rw [decide_eq_true (by omega)] at hly
        have hcT:=c20 hf hu yo yn (by omega)
        have hsx:=Zbk (nmP f u) y
        have hcN:=c21 (t:=y.xt (nmP f u)) (ZlV (fun s hs=>Zdw hf hu hs) yo yn) (by omega)
        have hyv:=Zlw f u y
        have hia2:=Zoh (id:=kk) hltk
        obtain ⟨p0,ep0⟩:∃ p0,p0=b.length:=⟨_,rfl⟩
        have hal1:∀ ρ,aOp E0 false ρ (.alloc 41) ⟨b,0,[],0⟩=some (.ptr b.length 4 0 0,⟨b++ [.cells 4 [zcT]],0,[],0⟩):=fun ρ=>rfl
        have hwr1:=Yn b y
        obtain ⟨b1,e1⟩:∃ b1,b1=b++ [.cells 4 [y.cells]]:=⟨_,rfl⟩
        rw [← e1, ← ep0] at hwr1
        rw [← ep0] at hal1
        clear hfin xk x0 x1 xa
        generalize (y.xt (nmP f u)).nf true=R at hcN hyv
        obtain ⟨N,ec⟩:=R
        generalize y.chg (nmP f u)=q at hcT hyv
        generalize y.xt (nmP f u)=U at hcT hcN hyv
        cases q
        · rw [if_neg (fun h => by cases h.1)] at hyv
          have hY:U=rnP f u y:=hyv.symm
          by_cases he:ec=0
          · subst he
            have pB1:b1[p0]? = some (.cells 4 [y.cells]):=by rw [e1,ep0];exact ZZ _ _
            have hld1:=UB pB1
            have w0a:b1[0]? = some (.cells 2 [[.int .i64 f,.int .i64 u]]):=by rw [e1];exact Zj w0
            have w1a:b1[1]? = some (.cells 6 cs4):=by rw [e1];exact Zj w1
            have wka:b1[kk]? = some (.cells 4 (Za ((te.take k).map (rnP f u)++te.drop k))):=by rw [e1];exact Zj wk
            have hsw1:=Zby w0a
            obtain ⟨p1,ep1⟩:∃ p1,p1=b1.length:=⟨_,rfl⟩
            have hal2:∀ ρ,aOp E0 false ρ (.alloc 41) ⟨b1,0,[],0⟩=some (.ptr b1.length 4 0 0,⟨b1++ [.cells 4 [zcT]],0,[],0⟩):=fun ρ=>rfl
            have hwr2:=Yn b1 U
            obtain ⟨b2,e2⟩:∃ b2,b2=b1++ [.cells 4 [U.cells]]:=⟨_,rfl⟩
            rw [← e2, ← ep1] at hwr2
            rw [← ep1] at hal2
            have pB2:b2[p1]? = some (.cells 4 [U.cells]):=by rw [e2,ep1];exact ZZ _ _
            have w0b:b2[0]? = some (.cells 2 [[.int .i64 f,.int .i64 u]]):=by rw [e2];exact Zj w0a
            have w1b:b2[1]? = some (.cells 6 cs4):=by rw [e2];exact Zj w1a
            have wkb:b2[kk]? = some (.cells 4 (Za ((te.take k).map (rnP f u)++te.drop k))):=by rw [e2];exact Zj wka
            have hld2:=UB pB2
            obtain ⟨p2,ep2⟩:∃ p2,p2=b2.length:=⟨_,rfl⟩
            have hal3:∀ ρ,aOp E0 false ρ (.alloc 41) ⟨b2,0,[],0⟩=some (.ptr b2.length 4 0 0,⟨b2++ [.cells 4 [zcT]],0,[],0⟩):=fun ρ=>rfl
            have hwr3:=Yn b2 N
            obtain ⟨b3,e3⟩:∃ b3,b3=b2++ [.cells 4 [N.cells]]:=⟨_,rfl⟩
            rw [← e3, ← ep2] at hwr3
            rw [← ep2] at hal3
            have pB3:b3[p1]? = some (.cells 4 [U.cells]):=by rw [e3];exact Zj pB2
            have w0c:b3[0]? = some (.cells 2 [[.int .i64 f,.int .i64 u]]):=by rw [e3];exact Zj w0b
            have w1c:b3[1]? = some (.cells 6 cs4):=by rw [e3];exact Zj w1b
            have wkc:b3[kk]? = some (.cells 4 (Za ((te.take k).map (rnP f u)++te.drop k))):=by rw [e3];exact Zj wkb
            have hlc:b3.length=b.length+3:=by rw [e3,List.length_append,e2,List.length_append,e1,List.length_append];rfl
            have hp1:p1=b.length+1:=by rw [ep1,e1,List.length_append];rfl
            have hold:∀ j,j<c4.length→j≠kk→b3[j]? = c4[j]? :=fun j h1' h2'=>by
             rw [← hO j h1' h2',e3,List.getElem?_append_left (by rw [e2,e1,List.length_append,List.length_append];omega),e2,List.getElem?_append_left (by rw [e1,List.length_append];omega),e1,List.getElem?_append_left (by omega)]
            have w0F:=w0c
            have w1F:=w1c
            have wkF:=wkc
            have pF:=pB3
            have holdF:=hold
            have hlF:b3.length=b.length+3:=hlc
            have hldM:=Qo (b:=b3) (p:=1) (i:=i) (off:=5) w1F hc4 (v:= .own kk 4 0 te.length) rfl
            have hldT:=UB pF
            obtain ⟨m1,m2⟩:=WR (h:=rnP f u) hy
            have hwrF:=Zlf (t:=U) wkF m1
            rw [show U=rnP f u y from hY,m2] at hwrF
            rw [← show U=rnP f u y from hY] at hwrF
            obtain ⟨bG,eG⟩:∃ bG,bG=b3.set kk (.cells 4 (Za ((te.take (k+1)).map (rnP f u)++te.drop (k+1)))):=⟨_,rfl⟩
            rw [← eG] at hwrF
            have hsome:(nth bG kk).isSome=true:=by rw [Zo,eG,Z4 wkF];rfl
            have hble:false=Nat.ble b3.length kk:=by
             have:¬ b3.length≤kk:=by omega
             cases h:Nat.ble b3.length kk with
             | false=>rfl
             | true=>exact absurd (Nat.le_of_ble_eq_true h) this
            have hbt1:Nat.blt 1 b3.length=true:=Nat.ble_eq_true_of_le (by omega)
            have hbt2:Nat.blt p1 b3.length=true:=Nat.ble_eq_true_of_le (by omega)
            have z1:bG[1]? = some (.cells 6 cs4):=by rw [eG];exact Ye (by omega) w1F
            have z0:bG[0]? = some (.cells 2 [[.int .i64 f,.int .i64 u]]):=by rw [eG];exact Ye (by omega) w0F
            have zk:bG[kk]? = some (.cells 4 (Za ((te.take (k+1)).map (rnP f u)++te.drop (k+1)))):=by rw [eG];exact Z4 wkF
            have zl:c4.length≤bG.length:=by rw [eG,List.length_set];omega
            have zo:∀ j,j<c4.length→j≠kk→bG[j]? = c4[j]? :=fun j h1' h2'=>by
             rw [eG,List.getElem?_set_ne (Ne.symm h2')];exact holdF j h1' h2'
            clear eG e1 e2 e3 m1 m2 hO hold holdF hY
            clear w0 w1 wk w0a w1a wka w0b w1b wkb w0c w1c wkc pB1 pB2 pB3
            obtain ⟨k1,nm1,s1,f1,kz1⟩:=y
            have hjy:=Zk hy
            obtain ⟨k2,nm2,s2,f2,kz2⟩:=U
            obtain ⟨k3,nm3,s3,f3,kz3⟩:=N
            simp only [Tm.cells] at hwr1 hwr2 hwr3 hld1 hld2 hcT hcN hldT hwrF
            repeat' first|refine Jk ?_|refine Jc (hcT _) ?_|refine Jc (hcN _) ?_|(apply RegQ.rAl;rfl;rfl;assumption)|refine Ji ?_|refine JJ ?_|(apply qLe;rfl;rfl;rfl;assumption;exact IsV.any _)|(apply qLd;rfl;rfl;rfl;assumption;exact IsV.any _)|refine Jl ?_|refine Jx ?_|refine Jt ?_|refine Jb ?_ ?_|(apply qT (ty:=0);rfl;rfl;rfl)|(apply qF (ty:=0);rfl;rfl;rfl)|refine Jz ?_ ?_|refine Jo ?_|(apply dK;rfl;rfl;rfl)|refine Jd (hcT _) ?_|refine Jd (hcN _) ?_|refine JD ?_|refine JK ?_|(apply dLe;rfl;rfl;rfl;assumption;exact IsV.any _;rfl)|(apply dLd;rfl;rfl;rfl;assumption;exact IsV.any _;(first|rfl|(show Nat.blt _ _=true;first|assumption|(simp [Nat.blt];done))))|(apply dLn;rfl;rfl;rfl;rfl;rfl)|refine JI ?_|(apply dT (ty:=4);rfl;rfl;rfl;rfl)|(apply dF (ty:=4);rfl;rfl;rfl;rfl)|(apply dB (ty:=4);rfl;rfl;rfl;rfl)|(apply dT (ty:=0);rfl;rfl;rfl;rfl)|(apply dF (ty:=0);rfl;rfl;rfl;rfl)|(apply dB (ty:=0);rfl;rfl;rfl;rfl)|(apply dSt;rfl;rfl;rfl;rfl;exact IsL.n;rfl;(first|rfl|assumption|(simp only [List.all_cons,List.all_nil,ZI,Bool.and_true];rfl));assumption;exact IsH.mkN;assumption;assumption;rfl)|refine Jh ?_|(apply Wp.drawS tOk follows;kernel_rfl;rfl)|intro hb
            exact LoopI.go (m2-1) (by omega) ⟨k+1,_,bG,by omega,zl,z0,z1,zk,zo,Zf ⟨rfl,rfl,rfl,rfl,rfl,rfl,rfl,rfl,Zd (Zc (n:=k+1) (by omega)),trivial⟩,rfl⟩
          · have heq := Ziu he
            have pB1:b1[p0]? = some (.cells 4 [y.cells]):=by rw [e1,ep0];exact ZZ _ _
            have hld1:=UB pB1
            have w0a:b1[0]? = some (.cells 2 [[.int .i64 f,.int .i64 u]]):=by rw [e1];exact Zj w0
            have w1a:b1[1]? = some (.cells 6 cs4):=by rw [e1];exact Zj w1
            have wka:b1[kk]? = some (.cells 4 (Za ((te.take k).map (rnP f u)++te.drop k))):=by rw [e1];exact Zj wk
            have hsw1:=Zby w0a
            obtain ⟨p1,ep1⟩:∃ p1,p1=b1.length:=⟨_,rfl⟩
            have hal2:∀ ρ,aOp E0 false ρ (.alloc 41) ⟨b1,0,[],0⟩=some (.ptr b1.length 4 0 0,⟨b1++ [.cells 4 [zcT]],0,[],0⟩):=fun ρ=>rfl
            have hwr2:=Yn b1 U
            obtain ⟨b2,e2⟩:∃ b2,b2=b1++ [.cells 4 [U.cells]]:=⟨_,rfl⟩
            rw [← e2, ← ep1] at hwr2
            rw [← ep1] at hal2
            have pB2:b2[p1]? = some (.cells 4 [U.cells]):=by rw [e2,ep1];exact ZZ _ _
            have w0b:b2[0]? = some (.cells 2 [[.int .i64 f,.int .i64 u]]):=by rw [e2];exact Zj w0a
            have w1b:b2[1]? = some (.cells 6 cs4):=by rw [e2];exact Zj w1a
            have wkb:b2[kk]? = some (.cells 4 (Za ((te.take k).map (rnP f u)++te.drop k))):=by rw [e2];exact Zj wka
            have hld2:=UB pB2
            obtain ⟨p2,ep2⟩:∃ p2,p2=b2.length:=⟨_,rfl⟩
            have hal3:∀ ρ,aOp E0 false ρ (.alloc 41) ⟨b2,0,[],0⟩=some (.ptr b2.length 4 0 0,⟨b2++ [.cells 4 [zcT]],0,[],0⟩):=fun ρ=>rfl
            have hwr3:=Yn b2 N
            obtain ⟨b3,e3⟩:∃ b3,b3=b2++ [.cells 4 [N.cells]]:=⟨_,rfl⟩
            rw [← e3, ← ep2] at hwr3
            rw [← ep2] at hal3
            have pB3:b3[p1]? = some (.cells 4 [U.cells]):=by rw [e3];exact Zj pB2
            have w0c:b3[0]? = some (.cells 2 [[.int .i64 f,.int .i64 u]]):=by rw [e3];exact Zj w0b
            have w1c:b3[1]? = some (.cells 6 cs4):=by rw [e3];exact Zj w1b
            have wkc:b3[kk]? = some (.cells 4 (Za ((te.take k).map (rnP f u)++te.drop k))):=by rw [e3];exact Zj wkb
            have hlc:b3.length=b.length+3:=by rw [e3,List.length_append,e2,List.length_append,e1,List.length_append];rfl
            have hp1:p1=b.length+1:=by rw [ep1,e1,List.length_append];rfl
            have hold:∀ j,j<c4.length→j≠kk→b3[j]? = c4[j]? :=fun j h1' h2'=>by
             rw [← hO j h1' h2',e3,List.getElem?_append_left (by rw [e2,e1,List.length_append,List.length_append];omega),e2,List.getElem?_append_left (by rw [e1,List.length_append];omega),e1,List.getElem?_append_left (by omega)]
            have w0F:=w0c
            have w1F:=w1c
            have wkF:=wkc
            have pF:=pB3
            have holdF:=hold
            have hlF:b3.length=b.length+3:=hlc
            have hldM:=Qo (b:=b3) (p:=1) (i:=i) (off:=5) w1F hc4 (v:= .own kk 4 0 te.length) rfl
            have hldT:=UB pF
            obtain ⟨m1,m2⟩:=WR (h:=rnP f u) hy
            have hwrF:=Zlf (t:=U) wkF m1
            rw [show U=rnP f u y from hY,m2] at hwrF
            rw [← show U=rnP f u y from hY] at hwrF
            obtain ⟨bG,eG⟩:∃ bG,bG=b3.set kk (.cells 4 (Za ((te.take (k+1)).map (rnP f u)++te.drop (k+1)))):=⟨_,rfl⟩
            rw [← eG] at hwrF
            have hsome:(nth bG kk).isSome=true:=by rw [Zo,eG,Z4 wkF];rfl
            have hble:false=Nat.ble b3.length kk:=by
             have:¬ b3.length≤kk:=by omega
             cases h:Nat.ble b3.length kk with
             | false=>rfl
             | true=>exact absurd (Nat.le_of_ble_eq_true h) this
            have hbt1:Nat.blt 1 b3.length=true:=Nat.ble_eq_true_of_le (by omega)
            have hbt2:Nat.blt p1 b3.length=true:=Nat.ble_eq_true_of_le (by omega)
            have z1:bG[1]? = some (.cells 6 cs4):=by rw [eG];exact Ye (by omega) w1F
            have z0:bG[0]? = some (.cells 2 [[.int .i64 f,.int .i64 u]]):=by rw [eG];exact Ye (by omega) w0F
            have zk:bG[kk]? = some (.cells 4 (Za ((te.take (k+1)).map (rnP f u)++te.drop (k+1)))):=by rw [eG];exact Z4 wkF
            have zl:c4.length≤bG.length:=by rw [eG,List.length_set];omega
            have zo:∀ j,j<c4.length→j≠kk→bG[j]? = c4[j]? :=fun j h1' h2'=>by
             rw [eG,List.getElem?_set_ne (Ne.symm h2')];exact holdF j h1' h2'
            clear eG e1 e2 e3 m1 m2 hO hold holdF hY
            clear w0 w1 wk w0a w1a wka w0b w1b wkb w0c w1c wkc pB1 pB2 pB3
            obtain ⟨k1,nm1,s1,f1,kz1⟩:=y
            have hjy:=Zk hy
            obtain ⟨k2,nm2,s2,f2,kz2⟩:=U
            obtain ⟨k3,nm3,s3,f3,kz3⟩:=N
            simp only [Tm.cells] at hwr1 hwr2 hwr3 hld1 hld2 hcT hcN hldT hwrF
            repeat' first|refine Jk ?_|refine Jc (hcT _) ?_|refine Jc (hcN _) ?_|(apply RegQ.rAl;rfl;rfl;assumption)|refine Ji ?_|refine JJ ?_|(apply qLe;rfl;rfl;rfl;assumption;exact IsV.any _)|(apply qLd;rfl;rfl;rfl;assumption;exact IsV.any _)|refine Jl ?_|refine Jx ?_|refine Jt ?_|refine Jb ?_ ?_|(apply qT (ty:=0);rfl;rfl;rfl)|(apply qF (ty:=0);rfl;rfl;rfl)|refine Jz ?_ ?_|refine Jo ?_|(apply dK;rfl;rfl;rfl)|refine Jd (hcT _) ?_|refine Jd (hcN _) ?_|refine JD ?_|refine JK ?_|(apply dLe;rfl;rfl;rfl;assumption;exact IsV.any _;rfl)|(apply dLd;rfl;rfl;rfl;assumption;exact IsV.any _;(first|rfl|(show Nat.blt _ _=true;first|assumption|(simp [Nat.blt];done))))|(apply dLn;rfl;rfl;rfl;rfl;rfl)|refine JI ?_|(apply dT (ty:=4);rfl;rfl;rfl;rfl)|(apply dF (ty:=4);rfl;rfl;rfl;rfl)|(apply dB (ty:=4);rfl;rfl;rfl;rfl)|(apply dT (ty:=0);rfl;rfl;rfl;rfl)|(apply dF (ty:=0);rfl;rfl;rfl;rfl)|(apply dB (ty:=0);rfl;rfl;rfl;rfl)|(apply dSt;rfl;rfl;rfl;rfl;exact IsL.n;rfl;(first|rfl|assumption|(simp only [List.all_cons,List.all_nil,ZI,Bool.and_true];rfl));assumption;exact IsH.mkN;assumption;assumption;rfl)|refine Jh ?_|(apply Wp.drawS tOk follows;kernel_rfl;rfl)|intro hb
            exact LoopI.go (m2-1) (by omega) ⟨k+1,_,bG,by omega,zl,z0,z1,zk,zo,Zf ⟨rfl,rfl,rfl,rfl,rfl,rfl,rfl,rfl,Zd (Zc (n:=k+1) (by omega)),trivial⟩,rfl⟩
        · by_cases he : ec = 0
          · subst he
            rw [if_pos ⟨rfl,rfl⟩] at hyv
            have hY:N=rnP f u y:=hyv.symm
            have pB1:b1[p0]? = some (.cells 4 [y.cells]):=by rw [e1,ep0];exact ZZ _ _
            have hld1:=UB pB1
            have w0a:b1[0]? = some (.cells 2 [[.int .i64 f,.int .i64 u]]):=by rw [e1];exact Zj w0
            have w1a:b1[1]? = some (.cells 6 cs4):=by rw [e1];exact Zj w1
            have wka:b1[kk]? = some (.cells 4 (Za ((te.take k).map (rnP f u)++te.drop k))):=by rw [e1];exact Zj wk
            have hsw1:=Zby w0a
            obtain ⟨p1,ep1⟩:∃ p1,p1=b1.length:=⟨_,rfl⟩
            have hal2:∀ ρ,aOp E0 false ρ (.alloc 41) ⟨b1,0,[],0⟩=some (.ptr b1.length 4 0 0,⟨b1++ [.cells 4 [zcT]],0,[],0⟩):=fun ρ=>rfl
            have hwr2:=Yn b1 U
            obtain ⟨b2,e2⟩:∃ b2,b2=b1++ [.cells 4 [U.cells]]:=⟨_,rfl⟩
            rw [← e2, ← ep1] at hwr2
            rw [← ep1] at hal2
            have pB2:b2[p1]? = some (.cells 4 [U.cells]):=by rw [e2,ep1];exact ZZ _ _
            have w0b:b2[0]? = some (.cells 2 [[.int .i64 f,.int .i64 u]]):=by rw [e2];exact Zj w0a
            have w1b:b2[1]? = some (.cells 6 cs4):=by rw [e2];exact Zj w1a
            have wkb:b2[kk]? = some (.cells 4 (Za ((te.take k).map (rnP f u)++te.drop k))):=by rw [e2];exact Zj wka
            have hld2:=UB pB2
            obtain ⟨p2,ep2⟩:∃ p2,p2=b2.length:=⟨_,rfl⟩
            have hal3:∀ ρ,aOp E0 false ρ (.alloc 41) ⟨b2,0,[],0⟩=some (.ptr b2.length 4 0 0,⟨b2++ [.cells 4 [zcT]],0,[],0⟩):=fun ρ=>rfl
            have hwr3:=Yn b2 N
            obtain ⟨b3,e3⟩:∃ b3,b3=b2++ [.cells 4 [N.cells]]:=⟨_,rfl⟩
            rw [← e3, ← ep2] at hwr3
            rw [← ep2] at hal3
            have pB3:b3[p1]? = some (.cells 4 [U.cells]):=by rw [e3];exact Zj pB2
            have w0c:b3[0]? = some (.cells 2 [[.int .i64 f,.int .i64 u]]):=by rw [e3];exact Zj w0b
            have w1c:b3[1]? = some (.cells 6 cs4):=by rw [e3];exact Zj w1b
            have wkc:b3[kk]? = some (.cells 4 (Za ((te.take k).map (rnP f u)++te.drop k))):=by rw [e3];exact Zj wkb
            have hlc:b3.length=b.length+3:=by rw [e3,List.length_append,e2,List.length_append,e1,List.length_append];rfl
            have hp1:p1=b.length+1:=by rw [ep1,e1,List.length_append];rfl
            have hold:∀ j,j<c4.length→j≠kk→b3[j]? = c4[j]? :=fun j h1' h2'=>by
             rw [← hO j h1' h2',e3,List.getElem?_append_left (by rw [e2,e1,List.length_append,List.length_append];omega),e2,List.getElem?_append_left (by rw [e1,List.length_append];omega),e1,List.getElem?_append_left (by omega)]
            have pB3':b3[p2]? = some (.cells 4 [N.cells]):=by rw [e3,ep2];exact ZZ _ _
            have hp2:p2=b.length+2:=by rw [ep2,e2,List.length_append,e1,List.length_append];rfl
            have hld3:=UB pB3'
            have hwr4:=Zrk (y:=N) pB3
            obtain ⟨b4,e4⟩:∃ b4,b4=b3.set p1 (.cells 4 [N.cells]):=⟨_,rfl⟩
            rw [← e4] at hwr4
            have pF:b4[p1]? = some (.cells 4 [N.cells]):=by rw [e4];exact Z4 pB3
            have w0F:b4[0]? = some (.cells 2 [[.int .i64 f,.int .i64 u]]):=by rw [e4];exact Ye (by omega) w0c
            have w1F:b4[1]? = some (.cells 6 cs4):=by rw [e4];exact Ye (by omega) w1c
            have wkF:b4[kk]? = some (.cells 4 (Za ((te.take k).map (rnP f u)++te.drop k))):=by rw [e4];exact Ye (by omega) wkc
            have hlF:b4.length=b.length+3:=by rw [e4,List.length_set];exact hlc
            have holdF:∀ j,j<c4.length→j≠kk→b4[j]? = c4[j]? :=fun j h1' h2'=>by
             rw [e4,List.getElem?_set_ne (by omega)];exact hold j h1' h2'
            have hldM:=Qo (b:=b4) (p:=1) (i:=i) (off:=5) w1F hc4 (v:= .own kk 4 0 te.length) rfl
            have hldT:=UB pF
            obtain ⟨m1,m2⟩:=WR (h:=rnP f u) hy
            have hwrF:=Zlf (t:=N) wkF m1
            rw [show N=rnP f u y from hY,m2] at hwrF
            rw [← show N=rnP f u y from hY] at hwrF
            obtain ⟨bG,eG⟩:∃ bG,bG=b4.set kk (.cells 4 (Za ((te.take (k+1)).map (rnP f u)++te.drop (k+1)))):=⟨_,rfl⟩
            rw [← eG] at hwrF
            have hsome:(nth bG kk).isSome=true:=by rw [Zo,eG,Z4 wkF];rfl
            have hble:false=Nat.ble b4.length kk:=by
             have:¬ b4.length≤kk:=by omega
             cases h:Nat.ble b4.length kk with
             | false=>rfl
             | true=>exact absurd (Nat.le_of_ble_eq_true h) this
            have hbt1:Nat.blt 1 b4.length=true:=Nat.ble_eq_true_of_le (by omega)
            have hbt2:Nat.blt p1 b4.length=true:=Nat.ble_eq_true_of_le (by omega)
            have z1:bG[1]? = some (.cells 6 cs4):=by rw [eG];exact Ye (by omega) w1F
            have z0:bG[0]? = some (.cells 2 [[.int .i64 f,.int .i64 u]]):=by rw [eG];exact Ye (by omega) w0F
            have zk:bG[kk]? = some (.cells 4 (Za ((te.take (k+1)).map (rnP f u)++te.drop (k+1)))):=by rw [eG];exact Z4 wkF
            have zl:c4.length≤bG.length:=by rw [eG,List.length_set];omega
            have zo:∀ j,j<c4.length→j≠kk→bG[j]? = c4[j]? :=fun j h1' h2'=>by
             rw [eG,List.getElem?_set_ne (Ne.symm h2')];exact holdF j h1' h2'
            clear eG e1 e2 e3 m1 m2 hO hold holdF hY
            clear w0 w1 wk w0a w1a wka w0b w1b wkb w0c w1c wkc pB1 pB2 pB3 e4 pB3'
            obtain ⟨k1,nm1,s1,f1,kz1⟩:=y
            have hjy:=Zk hy
            obtain ⟨k2,nm2,s2,f2,kz2⟩:=U
            obtain ⟨k3,nm3,s3,f3,kz3⟩:=N
            simp only [Tm.cells] at hwr1 hwr2 hwr3 hld1 hld2 hcT hcN hldT hwrF hld3 hwr4
            repeat' first|refine Jk ?_|refine Jc (hcT _) ?_|refine Jc (hcN _) ?_|(apply RegQ.rAl;rfl;rfl;assumption)|refine Ji ?_|refine JJ ?_|(apply qLe;rfl;rfl;rfl;assumption;exact IsV.any _)|(apply qLd;rfl;rfl;rfl;assumption;exact IsV.any _)|refine Jl ?_|refine Jx ?_|refine Jt ?_|refine Jb ?_ ?_|(apply qT (ty:=0);rfl;rfl;rfl)|(apply qF (ty:=0);rfl;rfl;rfl)|refine Jz ?_ ?_|refine Jo ?_|(apply dK;rfl;rfl;rfl)|refine Jd (hcT _) ?_|refine Jd (hcN _) ?_|refine JD ?_|refine JK ?_|(apply dLe;rfl;rfl;rfl;assumption;exact IsV.any _;rfl)|(apply dLd;rfl;rfl;rfl;assumption;exact IsV.any _;(first|rfl|(show Nat.blt _ _=true;first|assumption|(simp [Nat.blt];done))))|(apply dLn;rfl;rfl;rfl;rfl;rfl)|refine JI ?_|(apply dT (ty:=4);rfl;rfl;rfl;rfl)|(apply dF (ty:=4);rfl;rfl;rfl;rfl)|(apply dB (ty:=4);rfl;rfl;rfl;rfl)|(apply dT (ty:=0);rfl;rfl;rfl;rfl)|(apply dF (ty:=0);rfl;rfl;rfl;rfl)|(apply dB (ty:=0);rfl;rfl;rfl;rfl)|(apply dSt;rfl;rfl;rfl;rfl;exact IsL.n;rfl;(first|rfl|assumption|(simp only [List.all_cons,List.all_nil,ZI,Bool.and_true];rfl));assumption;exact IsH.mkN;assumption;assumption;rfl)|refine Jh ?_|(apply Wp.drawS tOk follows;kernel_rfl;rfl)|intro hb
            exact LoopI.go (m2-1) (by omega) ⟨k+1,_,bG,by omega,zl,z0,z1,zk,zo,Zf ⟨rfl,rfl,rfl,rfl,rfl,rfl,rfl,rfl,Zd (Zc (n:=k+1) (by omega)),trivial⟩,rfl⟩
          · rw [if_neg (fun h => he h.2)] at hyv
            have hY:U=rnP f u y:=hyv.symm
            have heq:=Ziu he
            have pB1:b1[p0]? = some (.cells 4 [y.cells]):=by rw [e1,ep0];exact ZZ _ _
            have hld1:=UB pB1
            have w0a:b1[0]? = some (.cells 2 [[.int .i64 f,.int .i64 u]]):=by rw [e1];exact Zj w0
            have w1a:b1[1]? = some (.cells 6 cs4):=by rw [e1];exact Zj w1
            have wka:b1[kk]? = some (.cells 4 (Za ((te.take k).map (rnP f u)++te.drop k))):=by rw [e1];exact Zj wk
            have hsw1:=Zby w0a
            obtain ⟨p1,ep1⟩:∃ p1,p1=b1.length:=⟨_,rfl⟩
            have hal2:∀ ρ,aOp E0 false ρ (.alloc 41) ⟨b1,0,[],0⟩=some (.ptr b1.length 4 0 0,⟨b1++ [.cells 4 [zcT]],0,[],0⟩):=fun ρ=>rfl
            have hwr2:=Yn b1 U
            obtain ⟨b2,e2⟩:∃ b2,b2=b1++ [.cells 4 [U.cells]]:=⟨_,rfl⟩
            rw [← e2, ← ep1] at hwr2
            rw [← ep1] at hal2
            have pB2:b2[p1]? = some (.cells 4 [U.cells]):=by rw [e2,ep1];exact ZZ _ _
            have w0b:b2[0]? = some (.cells 2 [[.int .i64 f,.int .i64 u]]):=by rw [e2];exact Zj w0a
            have w1b:b2[1]? = some (.cells 6 cs4):=by rw [e2];exact Zj w1a
            have wkb:b2[kk]? = some (.cells 4 (Za ((te.take k).map (rnP f u)++te.drop k))):=by rw [e2];exact Zj wka
            have hld2:=UB pB2
            obtain ⟨p2,ep2⟩:∃ p2,p2=b2.length:=⟨_,rfl⟩
            have hal3:∀ ρ,aOp E0 false ρ (.alloc 41) ⟨b2,0,[],0⟩=some (.ptr b2.length 4 0 0,⟨b2++ [.cells 4 [zcT]],0,[],0⟩):=fun ρ=>rfl
            have hwr3:=Yn b2 N
            obtain ⟨b3,e3⟩:∃ b3,b3=b2++ [.cells 4 [N.cells]]:=⟨_,rfl⟩
            rw [← e3, ← ep2] at hwr3
            rw [← ep2] at hal3
            have pB3:b3[p1]? = some (.cells 4 [U.cells]):=by rw [e3];exact Zj pB2
            have w0c:b3[0]? = some (.cells 2 [[.int .i64 f,.int .i64 u]]):=by rw [e3];exact Zj w0b
            have w1c:b3[1]? = some (.cells 6 cs4):=by rw [e3];exact Zj w1b
            have wkc:b3[kk]? = some (.cells 4 (Za ((te.take k).map (rnP f u)++te.drop k))):=by rw [e3];exact Zj wkb
            have hlc:b3.length=b.length+3:=by rw [e3,List.length_append,e2,List.length_append,e1,List.length_append];rfl
            have hp1:p1=b.length+1:=by rw [ep1,e1,List.length_append];rfl
            have hold:∀ j,j<c4.length→j≠kk→b3[j]? = c4[j]? :=fun j h1' h2'=>by
             rw [← hO j h1' h2',e3,List.getElem?_append_left (by rw [e2,e1,List.length_append,List.length_append];omega),e2,List.getElem?_append_left (by rw [e1,List.length_append];omega),e1,List.getElem?_append_left (by omega)]
            have w0F:=w0c
            have w1F:=w1c
            have wkF:=wkc
            have pF:=pB3
            have holdF:=hold
            have hlF:b3.length=b.length+3:=hlc
            have hldM:=Qo (b:=b3) (p:=1) (i:=i) (off:=5) w1F hc4 (v:= .own kk 4 0 te.length) rfl
            have hldT:=UB pF
            obtain ⟨m1,m2⟩:=WR (h:=rnP f u) hy
            have hwrF:=Zlf (t:=U) wkF m1
            rw [show U=rnP f u y from hY,m2] at hwrF
            rw [← show U=rnP f u y from hY] at hwrF
            obtain ⟨bG,eG⟩:∃ bG,bG=b3.set kk (.cells 4 (Za ((te.take (k+1)).map (rnP f u)++te.drop (k+1)))):=⟨_,rfl⟩
            rw [← eG] at hwrF
            have hsome:(nth bG kk).isSome=true:=by rw [Zo,eG,Z4 wkF];rfl
            have hble:false=Nat.ble b3.length kk:=by
             have:¬ b3.length≤kk:=by omega
             cases h:Nat.ble b3.length kk with
             | false=>rfl
             | true=>exact absurd (Nat.le_of_ble_eq_true h) this
            have hbt1:Nat.blt 1 b3.length=true:=Nat.ble_eq_true_of_le (by omega)
            have hbt2:Nat.blt p1 b3.length=true:=Nat.ble_eq_true_of_le (by omega)
            have z1:bG[1]? = some (.cells 6 cs4):=by rw [eG];exact Ye (by omega) w1F
            have z0:bG[0]? = some (.cells 2 [[.int .i64 f,.int .i64 u]]):=by rw [eG];exact Ye (by omega) w0F
            have zk:bG[kk]? = some (.cells 4 (Za ((te.take (k+1)).map (rnP f u)++te.drop (k+1)))):=by rw [eG];exact Z4 wkF
            have zl:c4.length≤bG.length:=by rw [eG,List.length_set];omega
            have zo:∀ j,j<c4.length→j≠kk→bG[j]? = c4[j]? :=fun j h1' h2'=>by
             rw [eG,List.getElem?_set_ne (Ne.symm h2')];exact holdF j h1' h2'
            clear eG e1 e2 e3 m1 m2 hO hold holdF hY
            clear w0 w1 wk w0a w1a wka w0b w1b wkb w0c w1c wkc pB1 pB2 pB3
            obtain ⟨k1,nm1,s1,f1,kz1⟩:=y
            have hjy:=Zk hy
            obtain ⟨k2,nm2,s2,f2,kz2⟩:=U
            obtain ⟨k3,nm3,s3,f3,kz3⟩:=N
            simp only [Tm.cells] at hwr1 hwr2 hwr3 hld1 hld2 hcT hcN hldT hwrF
            repeat' first|refine Jk ?_|refine Jc (hcT _) ?_|refine Jc (hcN _) ?_|(apply RegQ.rAl;rfl;rfl;assumption)|refine Ji ?_|refine JJ ?_|(apply qLe;rfl;rfl;rfl;assumption;exact IsV.any _)|(apply qLd;rfl;rfl;rfl;assumption;exact IsV.any _)|refine Jl ?_|refine Jx ?_|refine Jt ?_|refine Jb ?_ ?_|(apply qT (ty:=0);rfl;rfl;rfl)|(apply qF (ty:=0);rfl;rfl;rfl)|refine Jz ?_ ?_|refine Jo ?_|(apply dK;rfl;rfl;rfl)|refine Jd (hcT _) ?_|refine Jd (hcN _) ?_|refine JD ?_|refine JK ?_|(apply dLe;rfl;rfl;rfl;assumption;exact IsV.any _;rfl)|(apply dLd;rfl;rfl;rfl;assumption;exact IsV.any _;(first|rfl|(show Nat.blt _ _=true;first|assumption|(simp [Nat.blt];done))))|(apply dLn;rfl;rfl;rfl;rfl;rfl)|refine JI ?_|(apply dT (ty:=4);rfl;rfl;rfl;rfl)|(apply dF (ty:=4);rfl;rfl;rfl;rfl)|(apply dB (ty:=4);rfl;rfl;rfl;rfl)|(apply dT (ty:=0);rfl;rfl;rfl;rfl)|(apply dF (ty:=0);rfl;rfl;rfl;rfl)|(apply dB (ty:=0);rfl;rfl;rfl;rfl)|(apply dSt;rfl;rfl;rfl;rfl;exact IsL.n;rfl;(first|rfl|assumption|(simp only [List.all_cons,List.all_nil,ZI,Bool.and_true];rfl));assumption;exact IsH.mkN;assumption;assumption;rfl)|refine Jh ?_|(apply Wp.drawS tOk follows;kernel_rfl;rfl)|intro hb
            exact LoopI.go (m2-1) (by omega) ⟨k+1,_,bG,by omega,zl,z0,z1,zk,zo,Zf ⟨rfl,rfl,rfl,rfl,rfl,rfl,rfl,rfl,Zd (Zc (n:=k+1) (by omega)),trivial⟩,rfl⟩
      · have e : k = te.length := by omega
        subst e
        have hly:=Zt (te.length:Int) (te.length:Int)
        rw [decide_eq_false (by omega)] at hly
        rw [List.take_length,List.drop_length,List.append_nil] at wk
        obtain ⟨y1,y2⟩:=hfin b wk fun j h1' h2' _=>hO j h1' h2'
        repeat' first|refine Jk ?_|refine Ji ?_|refine JJ ?_|refine Jl ?_|refine Jx ?_|refine Jt ?_|refine Jb ?_ ?_|(apply qT (ty:=0);rfl;rfl;rfl)|(apply qF (ty:=0);rfl;rfl;rfl)|refine Jz ?_ ?_|refine Jo ?_|(apply dK;rfl;rfl;rfl)|refine JD ?_|refine JK ?_|(apply dLn;rfl;rfl;rfl;rfl;rfl)|refine JI ?_|(apply dT (ty:=4);rfl;rfl;rfl;rfl)|(apply dF (ty:=4);rfl;rfl;rfl;rfl)|(apply dB (ty:=4);rfl;rfl;rfl;rfl)|(apply dT (ty:=0);rfl;rfl;rfl;rfl)|(apply dF (ty:=0);rfl;rfl;rfl;rfl)|(apply dB (ty:=0);rfl;rfl;rfl;rfl)|refine Jh ?_|(apply Wp.drawS tOk follows;kernel_rfl;rfl)|intro hb
        exact LoopI.go (m-1) (by omega) ⟨i+1,_,b,cs4,by omega,hc4l,w0,w1,y1,y2,Zf ⟨rfl,rfl,rfl,rfl,Zd (Zc (n:=i+1) (by omega)),trivial⟩,rfl⟩
    · rw [decide_eq_false h6, Bool.not_false] at hk6
      have hwc2:=hwc2 h6
      repeat' first|refine Jk ?_|refine Jc hcl ?_|refine Jc (hnum _) ?_|(apply RegQ.rAl;rfl;rfl;assumption)|refine Ji ?_|refine JJ ?_|(apply qLe;rfl;rfl;rfl;assumption;exact IsV.any _)|(apply qLd;rfl;rfl;rfl;assumption;exact IsV.any _)|refine Jl ?_|refine Jx ?_|refine Jt ?_|refine Jb ?_ ?_|(apply qT (ty:=0);rfl;rfl;rfl)|(apply qF (ty:=0);rfl;rfl;rfl)|refine Jz ?_ ?_|refine Jo ?_|(apply dK;rfl;rfl;rfl)|refine Jd hcl ?_|refine Jd (hnum _) ?_|refine JD ?_|refine JK ?_|(apply dLe;rfl;rfl;rfl;assumption;exact IsV.any _;rfl)|(apply dLd;rfl;rfl;rfl;assumption;exact IsV.any _;(first|rfl|(show Nat.blt _ _=true;first|assumption|(simp [Nat.blt];done))))|(apply dLn;rfl;rfl;rfl;rfl;rfl)|refine JI ?_|(apply dT (ty:=4);rfl;rfl;rfl;rfl)|(apply dF (ty:=4);rfl;rfl;rfl;rfl)|(apply dB (ty:=4);rfl;rfl;rfl;rfl)|(apply dT (ty:=0);rfl;rfl;rfl;rfl)|(apply dF (ty:=0);rfl;rfl;rfl;rfl)|(apply dB (ty:=0);rfl;rfl;rfl;rfl)|(apply dSt;rfl;rfl;rfl;rfl;exact IsL.n;rfl;(first|rfl|assumption|(simp only [List.all_cons,List.all_nil,ZI,Bool.and_true];rfl));assumption;exact IsH.mkN;assumption;assumption;rfl)|refine Jh ?_|(apply Wp.drawS tOk follows;kernel_rfl;rfl)|intro hb
      refine Wp.while (fun m2 tm H => ∃ (k : Nat) (base : TM) (b : List Box), k + m2 = te.length ∧ c4.length ≤ b.length ∧ b[0]? = some (.cells 2 [[.int .i64 f, .int .i64 u]]) ∧ b[1]? = some (.cells 6 cs4) ∧ b[kk]? = some (.cells 4 (Za ((te.take k).map (rnP f u) ++ te.drop k))) ∧
        (∀ j,j<c4.length→j≠kk→b[j]? = c4[j]?)∧
        tm=ovr base [(7,.ptr 0 2 0 0),(8,.own 1 6 0 l.length),(9,.int .i64 (i:Int)),(37,slV b0 6 (moC l)),(38,.int .i64 (l.length:Int)),(39,.int .i64 (i:Int)),(63,slV tn 4 (Za te)),(64,.int .i64 (te.length:Int)),(65,.int .i64 (k:Int))]∧H=⟨b,0,[],0⟩)
       (fun m2 tm H hI=>?_) te.length _ _ ⟨0,_,c4,by omega,Nat.le_refl _,x0,x1,by rw [List.take_zero,List.map_nil,List.nil_append,List.drop_zero];exact xk,fun _ _ _=>rfl,Zf ⟨rfl,rfl,rfl,rfl,rfl,rfl,rfl,Zd (by rw [hcl4]),rfl,trivial⟩,rfl⟩
      clear hwr hal hldk hldn hsw hcl hw5 hlt1 hlt2
      obtain ⟨k,base2,b,hk,hbl,w0,w1,wk,hO,rfl,rfl⟩:=hI
      by_cases hltk:k<te.length
      · obtain ⟨y, hy⟩ : ∃ y, te[k]? = some y := ⟨te[k], by simp⟩
        obtain ⟨yo,yn,ys⟩:=hts y (List.mem_of_getElem? hy)
        have hly:=Zt (k:Int) (te.length:Int)
        rw [decide_eq_true (by omega)] at hly
        have hcT:=c20 hf hu yo yn (by omega)
        have hsx:=Zbk (nmP f u) y
        have hcN:=c21 (t:=y.xt (nmP f u)) (ZlV (fun s hs=>Zdw hf hu hs) yo yn) (by omega)
        have hyv:=Zlw f u y
        have hia2:=Zoh (id:=kk) hltk
        obtain ⟨p0,ep0⟩:∃ p0,p0=b.length:=⟨_,rfl⟩
        have hal1:∀ ρ,aOp E0 false ρ (.alloc 41) ⟨b,0,[],0⟩=some (.ptr b.length 4 0 0,⟨b++ [.cells 4 [zcT]],0,[],0⟩):=fun ρ=>rfl
        have hwr1:=Yn b y
        obtain ⟨b1,e1⟩:∃ b1,b1=b++ [.cells 4 [y.cells]]:=⟨_,rfl⟩
        rw [← e1, ← ep0] at hwr1
        rw [← ep0] at hal1
        clear hfin xk x0 x1 xa
        generalize (y.xt (nmP f u)).nf true=R at hcN hyv
        obtain ⟨N,ec⟩:=R
        generalize y.chg (nmP f u)=q at hcT hyv
        generalize y.xt (nmP f u)=U at hcT hcN hyv
        cases q
        · rw [if_neg (fun h => by cases h.1)] at hyv
          have hY:U=rnP f u y:=hyv.symm
          by_cases he:ec=0
          · subst he
            have pB1:b1[p0]? = some (.cells 4 [y.cells]):=by rw [e1,ep0];exact ZZ _ _
            have hld1:=UB pB1
            have w0a:b1[0]? = some (.cells 2 [[.int .i64 f,.int .i64 u]]):=by rw [e1];exact Zj w0
            have w1a:b1[1]? = some (.cells 6 cs4):=by rw [e1];exact Zj w1
            have wka:b1[kk]? = some (.cells 4 (Za ((te.take k).map (rnP f u)++te.drop k))):=by rw [e1];exact Zj wk
            have hsw1:=Zby w0a
            obtain ⟨p1,ep1⟩:∃ p1,p1=b1.length:=⟨_,rfl⟩
            have hal2:∀ ρ,aOp E0 false ρ (.alloc 41) ⟨b1,0,[],0⟩=some (.ptr b1.length 4 0 0,⟨b1++ [.cells 4 [zcT]],0,[],0⟩):=fun ρ=>rfl
            have hwr2:=Yn b1 U
            obtain ⟨b2,e2⟩:∃ b2,b2=b1++ [.cells 4 [U.cells]]:=⟨_,rfl⟩
            rw [← e2, ← ep1] at hwr2
            rw [← ep1] at hal2
            have pB2:b2[p1]? = some (.cells 4 [U.cells]):=by rw [e2,ep1];exact ZZ _ _
            have w0b:b2[0]? = some (.cells 2 [[.int .i64 f,.int .i64 u]]):=by rw [e2];exact Zj w0a
            have w1b:b2[1]? = some (.cells 6 cs4):=by rw [e2];exact Zj w1a
            have wkb:b2[kk]? = some (.cells 4 (Za ((te.take k).map (rnP f u)++te.drop k))):=by rw [e2];exact Zj wka
            have hld2:=UB pB2
            obtain ⟨p2,ep2⟩:∃ p2,p2=b2.length:=⟨_,rfl⟩
            have hal3:∀ ρ,aOp E0 false ρ (.alloc 41) ⟨b2,0,[],0⟩=some (.ptr b2.length 4 0 0,⟨b2++ [.cells 4 [zcT]],0,[],0⟩):=fun ρ=>rfl
            have hwr3:=Yn b2 N
            obtain ⟨b3,e3⟩:∃ b3,b3=b2++ [.cells 4 [N.cells]]:=⟨_,rfl⟩
            rw [← e3, ← ep2] at hwr3
            rw [← ep2] at hal3
            have pB3:b3[p1]? = some (.cells 4 [U.cells]):=by rw [e3];exact Zj pB2
            have w0c:b3[0]? = some (.cells 2 [[.int .i64 f,.int .i64 u]]):=by rw [e3];exact Zj w0b
            have w1c:b3[1]? = some (.cells 6 cs4):=by rw [e3];exact Zj w1b
            have wkc:b3[kk]? = some (.cells 4 (Za ((te.take k).map (rnP f u)++te.drop k))):=by rw [e3];exact Zj wkb
            have hlc:b3.length=b.length+3:=by rw [e3,List.length_append,e2,List.length_append,e1,List.length_append];rfl
            have hp1:p1=b.length+1:=by rw [ep1,e1,List.length_append];rfl
            have hold:∀ j,j<c4.length→j≠kk→b3[j]? = c4[j]? :=fun j h1' h2'=>by
             rw [← hO j h1' h2',e3,List.getElem?_append_left (by rw [e2,e1,List.length_append,List.length_append];omega),e2,List.getElem?_append_left (by rw [e1,List.length_append];omega),e1,List.getElem?_append_left (by omega)]
            have w0F:=w0c
            have w1F:=w1c
            have wkF:=wkc
            have pF:=pB3
            have holdF:=hold
            have hlF:b3.length=b.length+3:=hlc
            have hldM:=Qo (b:=b3) (p:=1) (i:=i) (off:=5) w1F hc4 (v:= .own kk 4 0 te.length) rfl
            have hldT:=UB pF
            obtain ⟨m1,m2⟩:=WR (h:=rnP f u) hy
            have hwrF:=Zlf (t:=U) wkF m1
            rw [show U=rnP f u y from hY,m2] at hwrF
            rw [← show U=rnP f u y from hY] at hwrF
            obtain ⟨bG,eG⟩:∃ bG,bG=b3.set kk (.cells 4 (Za ((te.take (k+1)).map (rnP f u)++te.drop (k+1)))):=⟨_,rfl⟩
            rw [← eG] at hwrF
            have hsome:(nth bG kk).isSome=true:=by rw [Zo,eG,Z4 wkF];rfl
            have hble:false=Nat.ble b3.length kk:=by
             have:¬ b3.length≤kk:=by omega
             cases h:Nat.ble b3.length kk with
             | false=>rfl
             | true=>exact absurd (Nat.le_of_ble_eq_true h) this
            have hbt1:Nat.blt 1 b3.length=true:=Nat.ble_eq_true_of_le (by omega)
            have hbt2:Nat.blt p1 b3.length=true:=Nat.ble_eq_true_of_le (by omega)
            have z1:bG[1]? = some (.cells 6 cs4):=by rw [eG];exact Ye (by omega) w1F
            have z0:bG[0]? = some (.cells 2 [[.int .i64 f,.int .i64 u]]):=by rw [eG];exact Ye (by omega) w0F
            have zk:bG[kk]? = some (.cells 4 (Za ((te.take (k+1)).map (rnP f u)++te.drop (k+1)))):=by rw [eG];exact Z4 wkF
            have zl:c4.length≤bG.length:=by rw [eG,List.length_set];omega
            have zo:∀ j,j<c4.length→j≠kk→bG[j]? = c4[j]? :=fun j h1' h2'=>by
             rw [eG,List.getElem?_set_ne (Ne.symm h2')];exact holdF j h1' h2'
            clear eG e1 e2 e3 m1 m2 hO hold holdF hY
            clear w0 w1 wk w0a w1a wka w0b w1b wkb w0c w1c wkc pB1 pB2 pB3
            obtain ⟨k1,nm1,s1,f1,kz1⟩:=y
            have hjy:=Zk hy
            obtain ⟨k2,nm2,s2,f2,kz2⟩:=U
            obtain ⟨k3,nm3,s3,f3,kz3⟩:=N
            simp only [Tm.cells] at hwr1 hwr2 hwr3 hld1 hld2 hcT hcN hldT hwrF
            repeat' first|refine Jk ?_|refine Jc (hcT _) ?_|refine Jc (hcN _) ?_|(apply RegQ.rAl;rfl;rfl;assumption)|refine Ji ?_|refine JJ ?_|(apply qLe;rfl;rfl;rfl;assumption;exact IsV.any _)|(apply qLd;rfl;rfl;rfl;assumption;exact IsV.any _)|refine Jl ?_|refine Jx ?_|refine Jt ?_|refine Jb ?_ ?_|(apply qT (ty:=0);rfl;rfl;rfl)|(apply qF (ty:=0);rfl;rfl;rfl)|refine Jz ?_ ?_|refine Jo ?_|(apply dK;rfl;rfl;rfl)|refine Jd (hcT _) ?_|refine Jd (hcN _) ?_|refine JD ?_|refine JK ?_|(apply dLe;rfl;rfl;rfl;assumption;exact IsV.any _;rfl)|(apply dLd;rfl;rfl;rfl;assumption;exact IsV.any _;(first|rfl|(show Nat.blt _ _=true;first|assumption|(simp [Nat.blt];done))))|(apply dLn;rfl;rfl;rfl;rfl;rfl)|refine JI ?_|(apply dT (ty:=4);rfl;rfl;rfl;rfl)|(apply dF (ty:=4);rfl;rfl;rfl;rfl)|(apply dB (ty:=4);rfl;rfl;rfl;rfl)|(apply dT (ty:=0);rfl;rfl;rfl;rfl)|(apply dF (ty:=0);rfl;rfl;rfl;rfl)|(apply dB (ty:=0);rfl;rfl;rfl;rfl)|(apply dSt;rfl;rfl;rfl;rfl;exact IsL.n;rfl;(first|rfl|assumption|(simp only [List.all_cons,List.all_nil,ZI,Bool.and_true];rfl));assumption;exact IsH.mkN;assumption;assumption;rfl)|refine Jh ?_|(apply Wp.drawS tOk follows;kernel_rfl;rfl)|intro hb
            exact LoopI.go (m2-1) (by omega) ⟨k+1,_,bG,by omega,zl,z0,z1,zk,zo,Zf ⟨rfl,rfl,rfl,rfl,rfl,rfl,rfl,rfl,Zd (Zc (n:=k+1) (by omega)),trivial⟩,rfl⟩
          · have heq := Ziu he
            have pB1:b1[p0]? = some (.cells 4 [y.cells]):=by rw [e1,ep0];exact ZZ _ _
            have hld1:=UB pB1
            have w0a:b1[0]? = some (.cells 2 [[.int .i64 f,.int .i64 u]]):=by rw [e1];exact Zj w0
            have w1a:b1[1]? = some (.cells 6 cs4):=by rw [e1];exact Zj w1
            have wka:b1[kk]? = some (.cells 4 (Za ((te.take k).map (rnP f u)++te.drop k))):=by rw [e1];exact Zj wk
            have hsw1:=Zby w0a
            obtain ⟨p1,ep1⟩:∃ p1,p1=b1.length:=⟨_,rfl⟩
            have hal2:∀ ρ,aOp E0 false ρ (.alloc 41) ⟨b1,0,[],0⟩=some (.ptr b1.length 4 0 0,⟨b1++ [.cells 4 [zcT]],0,[],0⟩):=fun ρ=>rfl
            have hwr2:=Yn b1 U
            obtain ⟨b2,e2⟩:∃ b2,b2=b1++ [.cells 4 [U.cells]]:=⟨_,rfl⟩
            rw [← e2, ← ep1] at hwr2
            rw [← ep1] at hal2
            have pB2:b2[p1]? = some (.cells 4 [U.cells]):=by rw [e2,ep1];exact ZZ _ _
            have w0b:b2[0]? = some (.cells 2 [[.int .i64 f,.int .i64 u]]):=by rw [e2];exact Zj w0a
            have w1b:b2[1]? = some (.cells 6 cs4):=by rw [e2];exact Zj w1a
            have wkb:b2[kk]? = some (.cells 4 (Za ((te.take k).map (rnP f u)++te.drop k))):=by rw [e2];exact Zj wka
            have hld2:=UB pB2
            obtain ⟨p2,ep2⟩:∃ p2,p2=b2.length:=⟨_,rfl⟩
            have hal3:∀ ρ,aOp E0 false ρ (.alloc 41) ⟨b2,0,[],0⟩=some (.ptr b2.length 4 0 0,⟨b2++ [.cells 4 [zcT]],0,[],0⟩):=fun ρ=>rfl
            have hwr3:=Yn b2 N
            obtain ⟨b3,e3⟩:∃ b3,b3=b2++ [.cells 4 [N.cells]]:=⟨_,rfl⟩
            rw [← e3, ← ep2] at hwr3
            rw [← ep2] at hal3
            have pB3:b3[p1]? = some (.cells 4 [U.cells]):=by rw [e3];exact Zj pB2
            have w0c:b3[0]? = some (.cells 2 [[.int .i64 f,.int .i64 u]]):=by rw [e3];exact Zj w0b
            have w1c:b3[1]? = some (.cells 6 cs4):=by rw [e3];exact Zj w1b
            have wkc:b3[kk]? = some (.cells 4 (Za ((te.take k).map (rnP f u)++te.drop k))):=by rw [e3];exact Zj wkb
            have hlc:b3.length=b.length+3:=by rw [e3,List.length_append,e2,List.length_append,e1,List.length_append];rfl
            have hp1:p1=b.length+1:=by rw [ep1,e1,List.length_append];rfl
            have hold:∀ j,j<c4.length→j≠kk→b3[j]? = c4[j]? :=fun j h1' h2'=>by
             rw [← hO j h1' h2',e3,List.getElem?_append_left (by rw [e2,e1,List.length_append,List.length_append];omega),e2,List.getElem?_append_left (by rw [e1,List.length_append];omega),e1,List.getElem?_append_left (by omega)]
            have w0F:=w0c
            have w1F:=w1c
            have wkF:=wkc
            have pF:=pB3
            have holdF:=hold
            have hlF:b3.length=b.length+3:=hlc
            have hldM:=Qo (b:=b3) (p:=1) (i:=i) (off:=5) w1F hc4 (v:= .own kk 4 0 te.length) rfl
            have hldT:=UB pF
            obtain ⟨m1,m2⟩:=WR (h:=rnP f u) hy
            have hwrF:=Zlf (t:=U) wkF m1
            rw [show U=rnP f u y from hY,m2] at hwrF
            rw [← show U=rnP f u y from hY] at hwrF
            obtain ⟨bG,eG⟩:∃ bG,bG=b3.set kk (.cells 4 (Za ((te.take (k+1)).map (rnP f u)++te.drop (k+1)))):=⟨_,rfl⟩
            rw [← eG] at hwrF
            have hsome:(nth bG kk).isSome=true:=by rw [Zo,eG,Z4 wkF];rfl
            have hble:false=Nat.ble b3.length kk:=by
             have:¬ b3.length≤kk:=by omega
             cases h:Nat.ble b3.length kk with
             | false=>rfl
             | true=>exact absurd (Nat.le_of_ble_eq_true h) this
            have hbt1:Nat.blt 1 b3.length=true:=Nat.ble_eq_true_of_le (by omega)
            have hbt2:Nat.blt p1 b3.length=true:=Nat.ble_eq_true_of_le (by omega)
            have z1:bG[1]? = some (.cells 6 cs4):=by rw [eG];exact Ye (by omega) w1F
            have z0:bG[0]? = some (.cells 2 [[.int .i64 f,.int .i64 u]]):=by rw [eG];exact Ye (by omega) w0F
            have zk:bG[kk]? = some (.cells 4 (Za ((te.take (k+1)).map (rnP f u)++te.drop (k+1)))):=by rw [eG];exact Z4 wkF
            have zl:c4.length≤bG.length:=by rw [eG,List.length_set];omega
            have zo:∀ j,j<c4.length→j≠kk→bG[j]? = c4[j]? :=fun j h1' h2'=>by
             rw [eG,List.getElem?_set_ne (Ne.symm h2')];exact holdF j h1' h2'
            clear eG e1 e2 e3 m1 m2 hO hold holdF hY
            clear w0 w1 wk w0a w1a wka w0b w1b wkb w0c w1c wkc pB1 pB2 pB3
            obtain ⟨k1,nm1,s1,f1,kz1⟩:=y
            have hjy:=Zk hy
            obtain ⟨k2,nm2,s2,f2,kz2⟩:=U
            obtain ⟨k3,nm3,s3,f3,kz3⟩:=N
            simp only [Tm.cells] at hwr1 hwr2 hwr3 hld1 hld2 hcT hcN hldT hwrF
            repeat' first|refine Jk ?_|refine Jc (hcT _) ?_|refine Jc (hcN _) ?_|(apply RegQ.rAl;rfl;rfl;assumption)|refine Ji ?_|refine JJ ?_|(apply qLe;rfl;rfl;rfl;assumption;exact IsV.any _)|(apply qLd;rfl;rfl;rfl;assumption;exact IsV.any _)|refine Jl ?_|refine Jx ?_|refine Jt ?_|refine Jb ?_ ?_|(apply qT (ty:=0);rfl;rfl;rfl)|(apply qF (ty:=0);rfl;rfl;rfl)|refine Jz ?_ ?_|refine Jo ?_|(apply dK;rfl;rfl;rfl)|refine Jd (hcT _) ?_|refine Jd (hcN _) ?_|refine JD ?_|refine JK ?_|(apply dLe;rfl;rfl;rfl;assumption;exact IsV.any _;rfl)|(apply dLd;rfl;rfl;rfl;assumption;exact IsV.any _;(first|rfl|(show Nat.blt _ _=true;first|assumption|(simp [Nat.blt];done))))|(apply dLn;rfl;rfl;rfl;rfl;rfl)|refine JI ?_|(apply dT (ty:=4);rfl;rfl;rfl;rfl)|(apply dF (ty:=4);rfl;rfl;rfl;rfl)|(apply dB (ty:=4);rfl;rfl;rfl;rfl)|(apply dT (ty:=0);rfl;rfl;rfl;rfl)|(apply dF (ty:=0);rfl;rfl;rfl;rfl)|(apply dB (ty:=0);rfl;rfl;rfl;rfl)|(apply dSt;rfl;rfl;rfl;rfl;exact IsL.n;rfl;(first|rfl|assumption|(simp only [List.all_cons,List.all_nil,ZI,Bool.and_true];rfl));assumption;exact IsH.mkN;assumption;assumption;rfl)|refine Jh ?_|(apply Wp.drawS tOk follows;kernel_rfl;rfl)|intro hb
            exact LoopI.go (m2-1) (by omega) ⟨k+1,_,bG,by omega,zl,z0,z1,zk,zo,Zf ⟨rfl,rfl,rfl,rfl,rfl,rfl,rfl,rfl,Zd (Zc (n:=k+1) (by omega)),trivial⟩,rfl⟩
        · by_cases he : ec = 0
          · subst he
            rw [if_pos ⟨rfl,rfl⟩] at hyv
            have hY:N=rnP f u y:=hyv.symm
            have pB1:b1[p0]? = some (.cells 4 [y.cells]):=by rw [e1,ep0];exact ZZ _ _
            have hld1:=UB pB1
            have w0a:b1[0]? = some (.cells 2 [[.int .i64 f,.int .i64 u]]):=by rw [e1];exact Zj w0
            have w1a:b1[1]? = some (.cells 6 cs4):=by rw [e1];exact Zj w1
            have wka:b1[kk]? = some (.cells 4 (Za ((te.take k).map (rnP f u)++te.drop k))):=by rw [e1];exact Zj wk
            have hsw1:=Zby w0a
            obtain ⟨p1,ep1⟩:∃ p1,p1=b1.length:=⟨_,rfl⟩
            have hal2:∀ ρ,aOp E0 false ρ (.alloc 41) ⟨b1,0,[],0⟩=some (.ptr b1.length 4 0 0,⟨b1++ [.cells 4 [zcT]],0,[],0⟩):=fun ρ=>rfl
            have hwr2:=Yn b1 U
            obtain ⟨b2,e2⟩:∃ b2,b2=b1++ [.cells 4 [U.cells]]:=⟨_,rfl⟩
            rw [← e2, ← ep1] at hwr2
            rw [← ep1] at hal2
            have pB2:b2[p1]? = some (.cells 4 [U.cells]):=by rw [e2,ep1];exact ZZ _ _
            have w0b:b2[0]? = some (.cells 2 [[.int .i64 f,.int .i64 u]]):=by rw [e2];exact Zj w0a
            have w1b:b2[1]? = some (.cells 6 cs4):=by rw [e2];exact Zj w1a
            have wkb:b2[kk]? = some (.cells 4 (Za ((te.take k).map (rnP f u)++te.drop k))):=by rw [e2];exact Zj wka
            have hld2:=UB pB2
            obtain ⟨p2,ep2⟩:∃ p2,p2=b2.length:=⟨_,rfl⟩
            have hal3:∀ ρ,aOp E0 false ρ (.alloc 41) ⟨b2,0,[],0⟩=some (.ptr b2.length 4 0 0,⟨b2++ [.cells 4 [zcT]],0,[],0⟩):=fun ρ=>rfl
            have hwr3:=Yn b2 N
            obtain ⟨b3,e3⟩:∃ b3,b3=b2++ [.cells 4 [N.cells]]:=⟨_,rfl⟩
            rw [← e3, ← ep2] at hwr3
            rw [← ep2] at hal3
            have pB3:b3[p1]? = some (.cells 4 [U.cells]):=by rw [e3];exact Zj pB2
            have w0c:b3[0]? = some (.cells 2 [[.int .i64 f,.int .i64 u]]):=by rw [e3];exact Zj w0b
            have w1c:b3[1]? = some (.cells 6 cs4):=by rw [e3];exact Zj w1b
            have wkc:b3[kk]? = some (.cells 4 (Za ((te.take k).map (rnP f u)++te.drop k))):=by rw [e3];exact Zj wkb
            have hlc:b3.length=b.length+3:=by rw [e3,List.length_append,e2,List.length_append,e1,List.length_append];rfl
            have hp1:p1=b.length+1:=by rw [ep1,e1,List.length_append];rfl
            have hold:∀ j,j<c4.length→j≠kk→b3[j]? = c4[j]? :=fun j h1' h2'=>by
             rw [← hO j h1' h2',e3,List.getElem?_append_left (by rw [e2,e1,List.length_append,List.length_append];omega),e2,List.getElem?_append_left (by rw [e1,List.length_append];omega),e1,List.getElem?_append_left (by omega)]
            have pB3':b3[p2]? = some (.cells 4 [N.cells]):=by rw [e3,ep2];exact ZZ _ _
            have hp2:p2=b.length+2:=by rw [ep2,e2,List.length_append,e1,List.length_append];rfl
            have hld3:=UB pB3'
            have hwr4:=Zrk (y:=N) pB3
            obtain ⟨b4,e4⟩:∃ b4,b4=b3.set p1 (.cells 4 [N.cells]):=⟨_,rfl⟩
            rw [← e4] at hwr4
            have pF:b4[p1]? = some (.cells 4 [N.cells]):=by rw [e4];exact Z4 pB3
            have w0F:b4[0]? = some (.cells 2 [[.int .i64 f,.int .i64 u]]):=by rw [e4];exact Ye (by omega) w0c
            have w1F:b4[1]? = some (.cells 6 cs4):=by rw [e4];exact Ye (by omega) w1c
            have wkF:b4[kk]? = some (.cells 4 (Za ((te.take k).map (rnP f u)++te.drop k))):=by rw [e4];exact Ye (by omega) wkc
            have hlF:b4.length=b.length+3:=by rw [e4,List.length_set];exact hlc
            have holdF:∀ j,j<c4.length→j≠kk→b4[j]? = c4[j]? :=fun j h1' h2'=>by
             rw [e4,List.getElem?_set_ne (by omega)];exact hold j h1' h2'
            have hldM:=Qo (b:=b4) (p:=1) (i:=i) (off:=5) w1F hc4 (v:= .own kk 4 0 te.length) rfl
            have hldT:=UB pF
            obtain ⟨m1,m2⟩:=WR (h:=rnP f u) hy
            have hwrF:=Zlf (t:=N) wkF m1
            rw [show N=rnP f u y from hY,m2] at hwrF
            rw [← show N=rnP f u y from hY] at hwrF
            obtain ⟨bG,eG⟩:∃ bG,bG=b4.set kk (.cells 4 (Za ((te.take (k+1)).map (rnP f u)++te.drop (k+1)))):=⟨_,rfl⟩
            rw [← eG] at hwrF
            have hsome:(nth bG kk).isSome=true:=by rw [Zo,eG,Z4 wkF];rfl
            have hble:false=Nat.ble b4.length kk:=by
             have:¬ b4.length≤kk:=by omega
             cases h:Nat.ble b4.length kk with
             | false=>rfl
             | true=>exact absurd (Nat.le_of_ble_eq_true h) this
            have hbt1:Nat.blt 1 b4.length=true:=Nat.ble_eq_true_of_le (by omega)
            have hbt2:Nat.blt p1 b4.length=true:=Nat.ble_eq_true_of_le (by omega)
            have z1:bG[1]? = some (.cells 6 cs4):=by rw [eG];exact Ye (by omega) w1F
            have z0:bG[0]? = some (.cells 2 [[.int .i64 f,.int .i64 u]]):=by rw [eG];exact Ye (by omega) w0F
            have zk:bG[kk]? = some (.cells 4 (Za ((te.take (k+1)).map (rnP f u)++te.drop (k+1)))):=by rw [eG];exact Z4 wkF
            have zl:c4.length≤bG.length:=by rw [eG,List.length_set];omega
            have zo:∀ j,j<c4.length→j≠kk→bG[j]? = c4[j]? :=fun j h1' h2'=>by
             rw [eG,List.getElem?_set_ne (Ne.symm h2')];exact holdF j h1' h2'
            clear eG e1 e2 e3 m1 m2 hO hold holdF hY
            clear w0 w1 wk w0a w1a wka w0b w1b wkb w0c w1c wkc pB1 pB2 pB3 e4 pB3'
            obtain ⟨k1,nm1,s1,f1,kz1⟩:=y
            have hjy:=Zk hy
            obtain ⟨k2,nm2,s2,f2,kz2⟩:=U
            obtain ⟨k3,nm3,s3,f3,kz3⟩:=N
            simp only [Tm.cells] at hwr1 hwr2 hwr3 hld1 hld2 hcT hcN hldT hwrF hld3 hwr4
            repeat' first|refine Jk ?_|refine Jc (hcT _) ?_|refine Jc (hcN _) ?_|(apply RegQ.rAl;rfl;rfl;assumption)|refine Ji ?_|refine JJ ?_|(apply qLe;rfl;rfl;rfl;assumption;exact IsV.any _)|(apply qLd;rfl;rfl;rfl;assumption;exact IsV.any _)|refine Jl ?_|refine Jx ?_|refine Jt ?_|refine Jb ?_ ?_|(apply qT (ty:=0);rfl;rfl;rfl)|(apply qF (ty:=0);rfl;rfl;rfl)|refine Jz ?_ ?_|refine Jo ?_|(apply dK;rfl;rfl;rfl)|refine Jd (hcT _) ?_|refine Jd (hcN _) ?_|refine JD ?_|refine JK ?_|(apply dLe;rfl;rfl;rfl;assumption;exact IsV.any _;rfl)|(apply dLd;rfl;rfl;rfl;assumption;exact IsV.any _;(first|rfl|(show Nat.blt _ _=true;first|assumption|(simp [Nat.blt];done))))|(apply dLn;rfl;rfl;rfl;rfl;rfl)|refine JI ?_|(apply dT (ty:=4);rfl;rfl;rfl;rfl)|(apply dF (ty:=4);rfl;rfl;rfl;rfl)|(apply dB (ty:=4);rfl;rfl;rfl;rfl)|(apply dT (ty:=0);rfl;rfl;rfl;rfl)|(apply dF (ty:=0);rfl;rfl;rfl;rfl)|(apply dB (ty:=0);rfl;rfl;rfl;rfl)|(apply dSt;rfl;rfl;rfl;rfl;exact IsL.n;rfl;(first|rfl|assumption|(simp only [List.all_cons,List.all_nil,ZI,Bool.and_true];rfl));assumption;exact IsH.mkN;assumption;assumption;rfl)|refine Jh ?_|(apply Wp.drawS tOk follows;kernel_rfl;rfl)|intro hb
            exact LoopI.go (m2-1) (by omega) ⟨k+1,_,bG,by omega,zl,z0,z1,zk,zo,Zf ⟨rfl,rfl,rfl,rfl,rfl,rfl,rfl,rfl,Zd (Zc (n:=k+1) (by omega)),trivial⟩,rfl⟩
          · rw [if_neg (fun h => he h.2)] at hyv
            have hY:U=rnP f u y:=hyv.symm
            have heq:=Ziu he
            have pB1:b1[p0]? = some (.cells 4 [y.cells]):=by rw [e1,ep0];exact ZZ _ _
            have hld1:=UB pB1
            have w0a:b1[0]? = some (.cells 2 [[.int .i64 f,.int .i64 u]]):=by rw [e1];exact Zj w0
            have w1a:b1[1]? = some (.cells 6 cs4):=by rw [e1];exact Zj w1
            have wka:b1[kk]? = some (.cells 4 (Za ((te.take k).map (rnP f u)++te.drop k))):=by rw [e1];exact Zj wk
            have hsw1:=Zby w0a
            obtain ⟨p1,ep1⟩:∃ p1,p1=b1.length:=⟨_,rfl⟩
            have hal2:∀ ρ,aOp E0 false ρ (.alloc 41) ⟨b1,0,[],0⟩=some (.ptr b1.length 4 0 0,⟨b1++ [.cells 4 [zcT]],0,[],0⟩):=fun ρ=>rfl
            have hwr2:=Yn b1 U
            obtain ⟨b2,e2⟩:∃ b2,b2=b1++ [.cells 4 [U.cells]]:=⟨_,rfl⟩
            rw [← e2, ← ep1] at hwr2
            rw [← ep1] at hal2
            have pB2:b2[p1]? = some (.cells 4 [U.cells]):=by rw [e2,ep1];exact ZZ _ _
            have w0b:b2[0]? = some (.cells 2 [[.int .i64 f,.int .i64 u]]):=by rw [e2];exact Zj w0a
            have w1b:b2[1]? = some (.cells 6 cs4):=by rw [e2];exact Zj w1a
            have wkb:b2[kk]? = some (.cells 4 (Za ((te.take k).map (rnP f u)++te.drop k))):=by rw [e2];exact Zj wka
            have hld2:=UB pB2
            obtain ⟨p2,ep2⟩:∃ p2,p2=b2.length:=⟨_,rfl⟩
            have hal3:∀ ρ,aOp E0 false ρ (.alloc 41) ⟨b2,0,[],0⟩=some (.ptr b2.length 4 0 0,⟨b2++ [.cells 4 [zcT]],0,[],0⟩):=fun ρ=>rfl
            have hwr3:=Yn b2 N
            obtain ⟨b3,e3⟩:∃ b3,b3=b2++ [.cells 4 [N.cells]]:=⟨_,rfl⟩
            rw [← e3, ← ep2] at hwr3
            rw [← ep2] at hal3
            have pB3:b3[p1]? = some (.cells 4 [U.cells]):=by rw [e3];exact Zj pB2
            have w0c:b3[0]? = some (.cells 2 [[.int .i64 f,.int .i64 u]]):=by rw [e3];exact Zj w0b
            have w1c:b3[1]? = some (.cells 6 cs4):=by rw [e3];exact Zj w1b
            have wkc:b3[kk]? = some (.cells 4 (Za ((te.take k).map (rnP f u)++te.drop k))):=by rw [e3];exact Zj wkb
            have hlc:b3.length=b.length+3:=by rw [e3,List.length_append,e2,List.length_append,e1,List.length_append];rfl
            have hp1:p1=b.length+1:=by rw [ep1,e1,List.length_append];rfl
            have hold:∀ j,j<c4.length→j≠kk→b3[j]? = c4[j]? :=fun j h1' h2'=>by
             rw [← hO j h1' h2',e3,List.getElem?_append_left (by rw [e2,e1,List.length_append,List.length_append];omega),e2,List.getElem?_append_left (by rw [e1,List.length_append];omega),e1,List.getElem?_append_left (by omega)]
            have w0F:=w0c
            have w1F:=w1c
            have wkF:=wkc
            have pF:=pB3
            have holdF:=hold
            have hlF:b3.length=b.length+3:=hlc
            have hldM:=Qo (b:=b3) (p:=1) (i:=i) (off:=5) w1F hc4 (v:= .own kk 4 0 te.length) rfl
            have hldT:=UB pF
            obtain ⟨m1,m2⟩:=WR (h:=rnP f u) hy
            have hwrF:=Zlf (t:=U) wkF m1
            rw [show U=rnP f u y from hY,m2] at hwrF
            rw [← show U=rnP f u y from hY] at hwrF
            obtain ⟨bG,eG⟩:∃ bG,bG=b3.set kk (.cells 4 (Za ((te.take (k+1)).map (rnP f u)++te.drop (k+1)))):=⟨_,rfl⟩
            rw [← eG] at hwrF
            have hsome:(nth bG kk).isSome=true:=by rw [Zo,eG,Z4 wkF];rfl
            have hble:false=Nat.ble b3.length kk:=by
             have:¬ b3.length≤kk:=by omega
             cases h:Nat.ble b3.length kk with
             | false=>rfl
             | true=>exact absurd (Nat.le_of_ble_eq_true h) this
            have hbt1:Nat.blt 1 b3.length=true:=Nat.ble_eq_true_of_le (by omega)
            have hbt2:Nat.blt p1 b3.length=true:=Nat.ble_eq_true_of_le (by omega)
            have z1:bG[1]? = some (.cells 6 cs4):=by rw [eG];exact Ye (by omega) w1F
            have z0:bG[0]? = some (.cells 2 [[.int .i64 f,.int .i64 u]]):=by rw [eG];exact Ye (by omega) w0F
            have zk:bG[kk]? = some (.cells 4 (Za ((te.take (k+1)).map (rnP f u)++te.drop (k+1)))):=by rw [eG];exact Z4 wkF
            have zl:c4.length≤bG.length:=by rw [eG,List.length_set];omega
            have zo:∀ j,j<c4.length→j≠kk→bG[j]? = c4[j]? :=fun j h1' h2'=>by
             rw [eG,List.getElem?_set_ne (Ne.symm h2')];exact holdF j h1' h2'
            clear eG e1 e2 e3 m1 m2 hO hold holdF hY
            clear w0 w1 wk w0a w1a wka w0b w1b wkb w0c w1c wkc pB1 pB2 pB3
            obtain ⟨k1,nm1,s1,f1,kz1⟩:=y
            have hjy:=Zk hy
            obtain ⟨k2,nm2,s2,f2,kz2⟩:=U
            obtain ⟨k3,nm3,s3,f3,kz3⟩:=N
            simp only [Tm.cells] at hwr1 hwr2 hwr3 hld1 hld2 hcT hcN hldT hwrF
            repeat' first|refine Jk ?_|refine Jc (hcT _) ?_|refine Jc (hcN _) ?_|(apply RegQ.rAl;rfl;rfl;assumption)|refine Ji ?_|refine JJ ?_|(apply qLe;rfl;rfl;rfl;assumption;exact IsV.any _)|(apply qLd;rfl;rfl;rfl;assumption;exact IsV.any _)|refine Jl ?_|refine Jx ?_|refine Jt ?_|refine Jb ?_ ?_|(apply qT (ty:=0);rfl;rfl;rfl)|(apply qF (ty:=0);rfl;rfl;rfl)|refine Jz ?_ ?_|refine Jo ?_|(apply dK;rfl;rfl;rfl)|refine Jd (hcT _) ?_|refine Jd (hcN _) ?_|refine JD ?_|refine JK ?_|(apply dLe;rfl;rfl;rfl;assumption;exact IsV.any _;rfl)|(apply dLd;rfl;rfl;rfl;assumption;exact IsV.any _;(first|rfl|(show Nat.blt _ _=true;first|assumption|(simp [Nat.blt];done))))|(apply dLn;rfl;rfl;rfl;rfl;rfl)|refine JI ?_|(apply dT (ty:=4);rfl;rfl;rfl;rfl)|(apply dF (ty:=4);rfl;rfl;rfl;rfl)|(apply dB (ty:=4);rfl;rfl;rfl;rfl)|(apply dT (ty:=0);rfl;rfl;rfl;rfl)|(apply dF (ty:=0);rfl;rfl;rfl;rfl)|(apply dB (ty:=0);rfl;rfl;rfl;rfl)|(apply dSt;rfl;rfl;rfl;rfl;exact IsL.n;rfl;(first|rfl|assumption|(simp only [List.all_cons,List.all_nil,ZI,Bool.and_true];rfl));assumption;exact IsH.mkN;assumption;assumption;rfl)|refine Jh ?_|(apply Wp.drawS tOk follows;kernel_rfl;rfl)|intro hb
            exact LoopI.go (m2-1) (by omega) ⟨k+1,_,bG,by omega,zl,z0,z1,zk,zo,Zf ⟨rfl,rfl,rfl,rfl,rfl,rfl,rfl,rfl,Zd (Zc (n:=k+1) (by omega)),trivial⟩,rfl⟩
      · have e : k = te.length := by omega
        subst e
        have hly:=Zt (te.length:Int) (te.length:Int)
        rw [decide_eq_false (by omega)] at hly
        rw [List.take_length,List.drop_length,List.append_nil] at wk
        obtain ⟨y1,y2⟩:=hfin b wk fun j h1' h2' _=>hO j h1' h2'
        repeat' first|refine Jk ?_|refine Ji ?_|refine JJ ?_|refine Jl ?_|refine Jx ?_|refine Jt ?_|refine Jb ?_ ?_|(apply qT (ty:=0);rfl;rfl;rfl)|(apply qF (ty:=0);rfl;rfl;rfl)|refine Jz ?_ ?_|refine Jo ?_|(apply dK;rfl;rfl;rfl)|refine JD ?_|refine JK ?_|(apply dLn;rfl;rfl;rfl;rfl;rfl)|refine JI ?_|(apply dT (ty:=4);rfl;rfl;rfl;rfl)|(apply dF (ty:=4);rfl;rfl;rfl;rfl)|(apply dB (ty:=4);rfl;rfl;rfl;rfl)|(apply dT (ty:=0);rfl;rfl;rfl;rfl)|(apply dF (ty:=0);rfl;rfl;rfl;rfl)|(apply dB (ty:=0);rfl;rfl;rfl;rfl)|refine Jh ?_|(apply Wp.drawS tOk follows;kernel_rfl;rfl)|intro hb
        exact LoopI.go (m-1) (by omega) ⟨i+1,_,b,cs4,by omega,hc4l,w0,w1,y1,y2,Zf ⟨rfl,rfl,rfl,rfl,Zd (Zc (n:=i+1) (by omega)),trivial⟩,rfl⟩
 obtain ⟨r,H1,h1,cs,bx,rfl,rfl,h2,h3,h4⟩:=key
 exact ⟨cs,bx,h1,h2,h3,h4⟩
