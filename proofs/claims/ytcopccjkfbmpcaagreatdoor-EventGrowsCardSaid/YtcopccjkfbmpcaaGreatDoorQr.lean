/-
  What the environment has been given: the program's text.
-/
import Derived.Test.YtcopccjkfbmpcaaGreatDoorRj
set_option maxHeartbeats 0
set_option maxRecDepth 100000
namespace Go.Vm
def txT (ln:Mo→Bs) (l:List Mo):Bs:=l.flatMap fun m=>ln m++ [10]
theorem ZlX (ln:Mo→Bs) {l:List Mo} {i:Nat} {m:Mo} (h:l[i]? = some m):txT ln (l.take (i+1))=txT ln (l.take i)++(ln m++ [10]):=by
 unfold txT
 rw [List.take_add_one,h,List.flatMap_append]
 simp
theorem ZeM {ln:Mo→Bs}:∀ {l:List Mo},(∀ m,m∈l→(ln m).length≤20000)→(txT ln l).length≤20001*l.length
 | [],_=>by simp [txT]
 | m :: r, h => by
   have h1:=h m List.mem_cons_self
   have h2:=ZeM fun m hm=>h m (List.mem_cons_of_mem _ hm)
   simp only [txT,List.flatMap_cons,List.length_append,List.length_cons,List.length_nil] at h2 ⊢
   omega
end Go.Vm
namespace Go.Vm.Seat
open Go.Proofs
theorem ZsC {l : List Mo} (hl : l.length ≤ 40) (hT : TrS l) (hv : (Zz l).2 = 0) {ln : Mo → Bs} (hln : ∀ m, m ∈ l → (ln m).length ≤ 20000 ∧ ∀ H, CallOk E0 Tryz.prog 41 [.agg m.cells] H (.str (ln m)) H) (b : Bool) :
  ∀ H,CallOk E0 Tryz.prog 15 [slV b 6 (moC l)] H (.tup [.str (txT ln l),.int .i64 0]) H:=by
 have hcl:=YH l
 have hV:=c16 hT b
 rw [hv] at hV
 refine Jw tOk fe15.ok rfl ?_
 repeat' first|refine Jc (hV _) ?_|refine Jl ?_|refine Jt ?_|refine Jo ?_|fail
 refine Wp.while (fun m tm H => ∃ (i : Nat) (base : TM) (p v : PV) (lv : List Nat) (nt : Nat), i + m = l.length ∧ BdS 0 p v (txT ln (l.take i)) lv nt ∧
   tm=ovr base [(5,.ptr 0 2 0 0),(14,slV b 6 (moC l)),(15,.int .i64 (l.length:Int)),(16,.int .i64 (i:Int))]∧H=⟨[.sp 69 [p,v]],0,lv,nt⟩)
  (fun m tm H hI=>Wp.drop ?_) l.length _ _ ⟨0,_,_,_,_,_,by omega,.no _ _,Zf ⟨rfl,rfl,Ze (by rw [hcl]),rfl,trivial⟩,rfl⟩
 obtain ⟨i,base,p,v,lv,nt,hi,hS,rfl,rfl⟩:=hI
 have hlx:=Zq (i:Int) (l.length:Int)
 by_cases hlt:i<l.length
 · obtain ⟨x, hx⟩ : ∃ x, l[i]? = some x := ⟨l[i], by simp⟩
   rw [decide_eq_true (by omega)] at hlx
   obtain ⟨h1,hL⟩:=hln x (List.mem_of_getElem? hx)
   have hsn:=ZlX ln hx
   have htl:=ZeM (ln:=ln) (l:=l.take i) (fun m hm=>(hln m (List.mem_of_mem_take hm)).1)
   rw [List.length_take] at htl
   have a1:=Zcy (a:=ln x) (b:=[10]) (by simp only [List.length_cons,List.length_nil];omega)
   obtain ⟨lv',hc⟩:=wrS (bx:=[.sp 69 [p,v],.cells 6 [x.cells]]) (id:=0) rfl hS (x:=ln x++ [10]) (VE _ (by simp)) (by
    have:20001*min i l.length≤20001*39:=Nat.mul_le_mul_left _ (by omega)
    simp only [List.length_append,List.length_cons,List.length_nil];omega)
   rw [← hsn] at hc
   have hS2:BdS 0 (.ptr 0 2 0 0) (.sl (.tok nt) 1 (Zw (txT ln (l.take (i+1))))) (txT ln (l.take (i+1))) (nt::lv') (nt+1):= .tok _ _ _ _ (by rw [hsn];exact VE _ (VE _ (by simp))) List.mem_cons_self (Nat.lt_succ_self _)
   clear hsn htl hS h1
   obtain ⟨X,hX⟩:∃ X,X=txT ln (l.take (i+1)):=⟨_,rfl⟩
   rw [← hX] at hc hS2
   generalize ln x=w at hL a1 hc
   obtain ⟨kd,nu,ro,an,ag,go,tn,te⟩:=x
   have hj:=WV hx
   simp only [Mo.cells] at hj hL hc
   repeat' first|refine Jc (hL _) ?_|refine Jc hc ?_|refine Ji ?_|refine Jx ?_|refine Jo ?_|fail
   refine DropQ.go [(5,.ptr 0 2 0 0),(14,slV b 6 (moC l)),(15,.int .i64 (l.length:Int)),(16,.int .i64 ((i+1:Nat):Int))] ⟨rfl,rfl,rfl,Ze (Zd (n:=i+1) (by omega)),trivial⟩ ?_ rfl ?_ (LoopI.go (m-1) (by omega) ⟨i+1,_,_,_,_,_,by omega,by rw [← hX];exact hS2,rfl,rfl⟩)
   · simp [Zh,under]
   · simp [YJ,ZM,under]
 · have e : i = l.length := by omega
   subst e
   rw [decide_eq_false (by omega)] at hlx
   rw [List.take_length] at hS
   have htl:=ZeM (ln:=ln) (l:=l) (fun m hm=>(hln m hm).1)
   obtain ⟨lv',hs⟩:=ZtJ (bx:=[.sp 69 [p,v]]) (id:=0) rfl hS (by
    have:20001*l.length≤20001*40:=Nat.mul_le_mul_left _ hl
    omega)
   repeat' first|refine Jc hs ?_|refine Ji ?_|refine Jo ?_|fail
   all_goals rfl
end Go.Vm.Seat
namespace Go.Vm
def UK (s:Bs):Bool:=s.any fun c=>c==35
def ixS (v:Bs):List Bs→Nat→Int
 | [],_=> -1
 |x::r,i=>if v=x then (i:Int) else ixS v r (i+1)
def Xs (v:Bs) (l:List Bs):Bool:=decide (0≤ixS v l 0)
structure Ca where
 an:Bool
 ag:List Bs
 bn:Bool
 bad:List Bs
def Ca.cells (c:Ca):List PV:=[slV c.an 1 (Zp c.ag),slV c.bn 1 (Zp c.bad)]
structure Ca.Sm (c:Ca):Prop where
 la:c.ag.length≤100
 lb:c.bad.length≤100
 na:∀ s,s∈c.ag→s.length≤1000
 nb:∀ s,s∈c.bad→s.length≤1000
def agE:List Bs→List Bs→Int
 |_,[]=>0
 |p,a::r=>if (!YB a||UK a)=true then 2 else if Xs a p=true then 5 else agE (p++ [a]) r
def bdE (ag:List Bs):List Bs→Int→Int
 | [],_=>0
 |b::r,last=>if ixS b ag 0<0 then 4 else if ixS b ag 0≤last then 5 else bdE ag r (ixS b ag 0)
def Ca.err (c:Ca):Int:=if c.ag.length=0 then 8 else if 6<c.ag.length then 3 else if agE [] c.ag≠0 then agE [] c.ag else bdE c.ag c.bad (-1)
end Go.Vm
namespace Go.Vm.Seat
variable {L:List Tm} {f:FuncId} {bx:List Box}
open Go.Proofs
theorem Zlo (h:L≠ []):kpF L 1=L.take 1:=by
 cases L with
 |nil=>exact absurd rfl h
 |cons a r=>rw [ZnE];rfl
def ZpJ (id:Nat) (bx:List Box) (L:List Tm) (r:PV) (H:Heap):Prop:=∃ D:List (List PV),r= .own id 4 0 (kpF L L.length).length∧H=⟨bx.set id (.cells 4 (Za (kpF L L.length)++D)),0,[],0⟩
theorem Zll {id : Nat} (hid : bx[id]? = some (.cells 4 (Za L))) (hcmp : ∀ x y, x ∈ L → y ∈ L → ∀ H, CallOk E0 Tryz.prog f [.agg x.cells, .agg y.cells] H (.bool (decide (x.cmp y = 0))) H) (hlen : L.length ≤ 100000) (hne : L ≠ []) :
  ∃ r H',CallOk E0 Tryz.prog 29 [.own id 4 0 L.length,.fn f []] ⟨bx,0,[],0⟩ r H'∧ZpJ id bx L r H':=by
 have hlt:=ZB hid
 have hself:bx.set id (.cells 4 (Za L))=bx:=by
  refine List.ext_getElem? fun k=>?_
  rw [List.getElem?_set]
  split
  · rename_i e
    subst e
    first
     | exact hid.symm
     | (rw [if_pos hlt];exact hid.symm)
  · rfl
 refine ZT (own:=fun _=>false) tOk fe29.ok ?_
 refine Wp.seq ?_
 have hblt:∀ b:Box,Nat.blt id (bx.set id b).length=true:=fun b=>by rw [List.length_set];exact Nat.ble_eq_true_of_le hlt
 have hsame:kpF L L.length=L→ZpJ id bx L (.own id 4 0 L.length) ⟨bx,0,[],0⟩:=fun h=>⟨[],by rw [h],by rw [h,List.append_nil,hself]⟩
 repeat' first|refine Jb ?_ ?_|refine Jo ?_|intro hb
 · refine RetR.ret rfl (hsame ?_)
   have h1:L.length=1:=by
    have:=List.length_pos_iff.2 hne
    have:L.length<2:=by simp at hb;omega
    omega
   obtain ⟨a,rfl⟩:=List.length_eq_one_iff.1 h1
   rfl
 have h2:2≤L.length:=by simp at hb;omega
 refine Wp.while (fun m tm H=>∃ (k:Nat) (base:TM),k+m=L.length∧1≤k∧kpF L k=L.take k∧tm=ovr base [(0,.own id 4 0 L.length),(1,.fn f []),(5,.int .i64 (k:Int))]∧H=⟨bx,0,[],0⟩)
  (fun m tm H hI=>?_) (L.length-1) _ _ ⟨1,_,by omega,by omega,Zlo hne,Zf ⟨rfl,rfl,rfl,trivial⟩,rfl⟩
 obtain ⟨k,base,hi,hk1,hkp,rfl,rfl⟩:=hI
 by_cases hklt:k<L.length
 · obtain ⟨x, hx⟩ : ∃ x, L[k]? = some x := ⟨L[k], by simp⟩
   obtain ⟨y,hy⟩:∃ y,L[k-1]? = some y:=⟨L[k-1]'(by omega),by simp⟩
   have hnb:nth bx id=some (.cells 4 (Za L)):=(Zo _ _).trans hid
   have hwr:IntKind.i64.wrap ((k:Int)-1)=((k-1:Nat):Int):=by
    rw [show (k:Int)-1=((k-1:Nat):Int) by omega]
    exact IntWalk.i64_in _ (by omega)
   have hi1:=QM (id:=id) (ix:=0) (len:=L.length) hklt
   have hi2:Zv E0 29 (.own id 4 0 L.length) (.int .i64 (IntKind.i64.wrap ((k:Int)-1)))=some (.ptr id 4 (0+(k-1)) 0):=by rw [hwr];exact QM (by omega)
   have hl1:Z4 E0 48 (.ptr id 4 (0+k) 0) ⟨bx,0,[],0⟩=some (.agg x.cells):=by rw [Nat.zero_add];exact ZcF hnb hx
   have hl2:Z4 E0 48 (.ptr id 4 (0+(k-1)) 0) ⟨bx,0,[],0⟩=some (.agg y.cells):=by rw [Nat.zero_add];exact ZcF hnb hy
   have hc:=hcmp x y (List.mem_of_getElem? hx) (List.mem_of_getElem? hy)
   have hsn:=ZeQ (by omega) hx hy
   rw [hkp] at hsn
   have hBB:∃ B,B=decide (x.cmp y=0):=⟨_,rfl⟩
   obtain ⟨B,hB⟩:=hBB
   rw [← hB] at hc
   have hsl:=Zmu (id:=id) (Nat.le_of_lt hklt)
   have hblt0:Nat.blt id bx.length=true:=by have:=hblt (.cells 4 (Za L));rwa [hself] at this
   cases B with
   | false =>
     repeat' first|refine Jb ?_ ?_|refine Jo ?_|refine Jd (hc _) ?_|refine JK ?_|(apply dLd;rfl;rfl;rfl;assumption;exact IsV.any _;(first|rfl|(show Nat.blt _ _=true;first|assumption|(simp [Nat.blt];done))))|refine Jh ?_|(apply Wp.draw tOk follows;kernel_rfl)|intro hb
     · have hsn2 : kpF L (k + 1) = L.take (k + 1) := by
         rw [hsn,if_neg (of_decide_eq_false hB.symm),List.take_add_one,hx];rfl
       exact LoopI.go (m-1) (by omega) ⟨k+1,_,by omega,by omega,hsn2,Zf ⟨rfl,rfl,Ze (Zd (n:=k+1) (by omega)),trivial⟩,rfl⟩
     · exfalso;simp at hb;omega
   | true =>
     repeat' first|refine JS ?_|refine Jb ?_ ?_|refine Jo ?_|refine Jd (hc _) ?_|refine JK ?_|(apply dLd;rfl;rfl;rfl;assumption;exact IsV.any _;(first|rfl|(show Nat.blt _ _=true;first|assumption|(simp [Nat.blt];done))))|refine Jh ?_|(apply Wp.draw tOk follows;kernel_rfl)|intro hb
     rotate_left
     · exfalso;simp at hb;omega
     rw [if_pos (of_decide_eq_true hB.symm),List.append_nil] at hsn
     clear hc hl1 hl2 hi1 hi2 hx hy hwr hB
     refine Wp.while (fun m2 tm H => ∃ (kk k2 : Nat) (M : List Tm) (base : TM), k + k2 + m2 = L.length ∧ k ≤ kk ∧ kk < k + k2 ∧ M.length = L.length ∧ (∀ x, x ∈ M → x ∈ L) ∧ kpF L (k + k2) = M.take kk ∧ (∀ j, k + k2 - 1 ≤ j → M[j]? = L[j]?) ∧
       tm=ovr base [(0,.own id 4 0 L.length),(1,.fn f []),(5,.int .i64 (kk:Int)),(6,.own id 4 (0+k) (L.length-k)),(7,.int .i64 (k2:Int))]∧H=⟨bx.set id (.cells 4 (Za M)),0,[],0⟩)
      (fun m2 tm H hI=>?_) (L.length-k-1) _ _ ⟨k,1,L,_,by omega,by omega,by omega,rfl,fun _ h=>h,hsn,fun _ _=>rfl,Zf ⟨rfl,rfl,rfl,rfl,rfl,trivial⟩,by rw [hself]⟩
     obtain ⟨kk,k2,M,base2,hi2,hk2,hk3,hM,hMm,hkM,hrest,rfl,rfl⟩:=hI
     have hnb:nth (bx.set id (.cells 4 (Za M))) id=some (.cells 4 (Za M)):=by rw [Zo];simp [hlt]
     by_cases hlt2:k2<L.length-k
     · obtain ⟨x, hx⟩ : ∃ x, M[k + k2]? = some x := ⟨M[k + k2]'(by omega), by simp⟩
       obtain ⟨y,hy⟩:∃ y,M[k+(k2-1)]? = some y:=⟨M[k+(k2-1)]'(by omega),by simp⟩
       obtain ⟨u,hu⟩:∃ u,M[kk]? = some u:=⟨M[kk]'(by omega),by simp⟩
       have hwr:IntKind.i64.wrap ((k2:Int)-1)=((k2-1:Nat):Int):=by
        rw [show (k2:Int)-1=((k2-1:Nat):Int) by omega]
        exact IntWalk.i64_in _ (by omega)
       have hi1:=QM (id:=id) (ix:=0+k) hlt2
       have hi2:Zv E0 29 (.own id 4 (0+k) (L.length-k)) (.int .i64 (IntKind.i64.wrap ((k2:Int)-1)))=some (.ptr id 4 (0+k+(k2-1)) 0):=by rw [hwr];exact QM (by omega)
       have hi3:=QM (id:=id) (ix:=0) (len:=L.length) (j:=kk) (by omega)
       have hl1:Z4 E0 48 (.ptr id 4 (0+k+k2) 0) ⟨bx.set id (.cells 4 (Za M)),0,[],0⟩=some (.agg x.cells):=by rw [Nat.zero_add];exact ZcF hnb hx
       have hl2:Z4 E0 48 (.ptr id 4 (0+k+(k2-1)) 0) ⟨bx.set id (.cells 4 (Za M)),0,[],0⟩=some (.agg y.cells):=by rw [Nat.zero_add];exact ZcF hnb hy
       have hc:=hcmp x y (hMm x (List.mem_of_getElem? hx)) (hMm y (List.mem_of_getElem? hy))
       have hLx:L[k+k2]? = some x:=by rw [← hrest _ (by omega)];exact hx
       have hLy:L[k+k2-1]? = some y:=by rw [← hrest _ (by omega),show k+k2-1=k+(k2-1) by omega];exact hy
       have hsn3:=ZeQ (by omega) hLx hLy
       rw [hkM] at hsn3
       have hBB:∃ B,B=decide (x.cmp y=0):=⟨_,rfl⟩
       obtain ⟨B,hB⟩:=hBB
       rw [← hB] at hc
       have hst:Heap.wr ⟨bx.set id (.cells 4 (Za M)),0,[],0⟩ (.ptr id 4 (0+kk) 0) x.cells=some ⟨bx.set id (.cells 4 (Za (M.set kk x))),0,[],0⟩:=by
        rw [Nat.zero_add,Zo4 hnb hu (Nat.zero_le _),List.set_set]
       have hblt2:=hblt (.cells 4 (Za M))
       have hset:∀ z,z∈M.set kk x→z∈L:=fun z hz=>by
        rcases List.mem_or_eq_of_mem_set hz with h|h
        · exact hMm z h
        · rw [h];exact hMm x (List.mem_of_getElem? hx)
       have hA1:B=false→kpF L (k+(k2+1))=(M.set kk x).take (kk+1):=fun h=>by
        rw [show k+(k2+1)=k+k2+1 by omega,hsn3,if_neg (of_decide_eq_false (hB.symm.trans h)),List.take_add_one,List.getElem?_set_self (by omega),List.take_set_of_le (Nat.le_refl _)];rfl
       have hA2:∀ j,k+(k2+1)-1≤j→(M.set kk x)[j]? = L[j]? :=fun j hj=>by
        rw [List.getElem?_set_ne (by omega)];exact hrest j (by omega)
       have hA3:B=true→kpF L (k+(k2+1))=M.take kk:=fun h=>by
        rw [show k+(k2+1)=k+k2+1 by omega,hsn3,if_pos (of_decide_eq_true (hB.symm.trans h)),List.append_nil]
       have hA4:∀ j,k+(k2+1)-1≤j→M[j]? = L[j]? :=fun j hj=>hrest j (by omega)
       clear hB hsn3 hLx hLy
       obtain ⟨k',nm',s',b',kz'⟩:=x
       simp only [Tm.cells] at hst hl1 hc
       cases B with
       | false =>
         repeat' first|refine JJ ?_|(apply qLd;rfl;rfl;rfl;assumption;exact IsV.any _)|refine Jb ?_ ?_|refine Jo ?_|refine Jd (hc _) ?_|refine JK ?_|(apply dLd;rfl;rfl;rfl;assumption;exact IsV.any _;(first|rfl|(show Nat.blt _ _=true;first|assumption|(simp [Nat.blt];done))))|(apply dT (ty:=4);rfl;rfl;rfl;rfl)|refine Jh ?_|(apply Wp.draw tOk follows;kernel_rfl)|intro hb
         · exact LoopI.go (m2-1) (by omega) ⟨kk+1,k2+1,_,_,by omega,by omega,by omega,by rw [List.length_set];exact hM,hset,hA1 rfl,hA2,Zf ⟨rfl,rfl,Ze (Zd (n:=kk+1) (by omega)),rfl,Ze (Zd (n:=k2+1) (by omega)),trivial⟩,rfl⟩
         · exfalso;simp at hb;omega
       | true =>
         repeat' first|refine Jb ?_ ?_|refine Jo ?_|refine Jd (hc _) ?_|refine JK ?_|(apply dLd;rfl;rfl;rfl;assumption;exact IsV.any _;(first|rfl|(show Nat.blt _ _=true;first|assumption|(simp [Nat.blt];done))))|(apply dF (ty:=4);rfl;rfl;rfl;rfl)|refine Jh ?_|(apply Wp.draw tOk follows;kernel_rfl)|intro hb
         · exact LoopI.go (m2-1) (by omega) ⟨kk,k2+1,M,_,by omega,by omega,by omega,hM,hMm,hA3 rfl,hA4,Zf ⟨rfl,rfl,rfl,rfl,Ze (Zd (n:=k2+1) (by omega)),trivial⟩,rfl⟩
         · exfalso;simp at hb;omega
     · have e2 : k2 = L.length - k := by omega
       subst e2
       have hsl2:=Zmu (id:=id) (k:=kk) (n:=L.length) (by omega)
       have hsl3:=Zqr (id:=id) (k:=kk) (n:=L.length) (by omega)
       have hclr:∃ D,QI E0 29 (.own id 4 (0+kk) (L.length-kk)) ⟨bx.set id (.cells 4 (Za M)),0,[],0⟩=some (.tup [],⟨bx.set id (.cells 4 (Za (M.take kk)++D)),0,[],0⟩):=by
        have h:=ZgF (E:=E0) (t:=29) (e:=48) (es:=4) (el:=Za M) (ix:=0+kk) (len:=L.length-kk) (H:=⟨bx.set id (.cells 4 (Za M)),0,[],0⟩) rfl rfl rfl rfl rfl (by decide) rfl hnb (Nat.zero_le _) (by rw [Zb];omega)
        rw [List.set_set,Nat.zero_add,Zbv] at h
        rw [Nat.zero_add]
        exact ⟨_,h⟩
       obtain ⟨D,hclr⟩:=hclr
       have hlt3:(M.take kk).length=kk:=by rw [List.length_take];omega
       repeat' first|refine JS ?_|(apply Zt4;rfl;rfl;assumption)|refine Jb ?_ ?_|refine Jo ?_|refine Jh ?_|(apply Wp.draw tOk follows;kernel_rfl)|intro hb
       · exfalso;simp at hb
       · have hfin : kpF L L.length = M.take kk := by rw [← hkM, show k + (L.length - k) = L.length by omega]
         refine RetR.ret rfl ⟨D,by rw [hfin,hlt3];rfl,by rw [hfin]⟩
 · have e : k = L.length := by omega
   subst e
   repeat' first|refine Jb ?_ ?_|refine Jo ?_|refine Jh ?_|(apply Wp.draw tOk follows;kernel_rfl)|intro hb
   · exfalso;simp at hb
   · refine RetR.ret rfl (hsame ?_)
     rw [hkp,List.take_length]
theorem c30 {t u:Tm} (ht:t.Ok) (hu:u.Ok) (h1:t.size<4611686018427387904) (h2:u.size<4611686018427387904):∀ H,CallOk E0 Tryz.prog 30 [.agg t.cells,.agg u.cells] H (.bool (decide (t.cmp u=0))) H:=by
 have hc:=fun H=>Zoe (d28 ht hu h1 h2 H)
 have he:=Z6 (t.cmp u) 0
 generalize decide (t.cmp u=0)=D at he ⊢
 generalize t.cmp u=c at hc he
 obtain ⟨k,nm,s,b,kz⟩:=t
 obtain ⟨k',nm',s',b',kz'⟩:=u
 simp only [Tm.cells] at hc ⊢
 refine Jw tOk fe30.ok rfl ?_
 repeat' first|refine Jc (hc _) ?_|refine Ji ?_|refine Jt ?_|refine Jo ?_|fail
 all_goals rfl
theorem Zkh (hf : ∀ {t u : Tm}, t.Ok → u.Ok → t.size < 4611686018427387904 → u.size < 4611686018427387904 → ∀ H, CallOk E0 Tryz.prog f [.agg t.cells, .agg u.cells] H (.bool (decide (t.cmp u = 0))) H)
  {id:Nat} (hid:bx[id]? = some (.cells 4 (Za L))) (hL:L≠ []) (hok:∀ x,x∈L→x.Ok∧x.size≤100000) (hlen:L.length≤100000) :
  CallOk E0 Tryz.prog 27 [.own id 4 0 L.length,.fn 28 []] ⟨bx,0,[],0⟩ (.tup []) ⟨bx.set id (.cells 4 (Za (Y2 L))),0,[],0⟩∧
  ∃ D,CallOk E0 Tryz.prog 29 [.own id 4 0 L.length,.fn f []] ⟨bx.set id (.cells 4 (Za (Y2 L))),0,[],0⟩ (.own id 4 0 (XW L).length) ⟨bx.set id (.cells 4 (Za (XW L)++D)),0,[],0⟩:=by
 have hlt:=ZB hid
 have hp:=VV hL (N:=100000) fun t ht=>(hok t ht).2
 have hsl:(Y2 L).length=L.length:=hp.length_eq
 have hsne:Y2 L≠ []:=fun h=>by rw [h] at hsl;exact hL (List.length_eq_zero_iff.1 hsl.symm)
 have hsm:∀ x,x∈Y2 L→x∈L:=fun x hx=>hp.mem_iff.1 hx
 refine ⟨ZkN hid hL hok hlen,?_⟩
 obtain ⟨r,H',hc,D,rfl,rfl⟩:=Zll (f:=f) (id:=id) (bx:=bx.set id (.cells 4 (Za (Y2 L)))) (L:=Y2 L) (by simp [hlt]) (fun x y hx hy=>hf (hok x (hsm x hx)).1 (hok y (hsm y hy)).1 (by have:=(hok x (hsm x hx)).2;omega) (by have:=(hok y (hsm y hy)).2;omega)) (by omega) hsne
 rw [hsl,List.set_set] at hc
 exact ⟨D,hc⟩
end Go.Vm.Seat
namespace Go.Vm
end Go.Vm
namespace Go.Vm.Seat
variable {H:Heap} {M:List Tm}
open Go.Proofs
theorem ZgR {id:Nat} (h:nth H.bx id=some (.cells 4 (Za M))):YN H (.own id 4 0 M.length)=some (Za M):=by
 simp only [YN,h]
 rw [if_pos ⟨trivial,by rw [Zb];omega⟩,List.drop_zero, ← Zb M,List.take_length]
 exact VH _
theorem ZfI {id:Nat} {D:List (List PV)} (hM:M≠ []) (hH:nth H.bx id=some (.cells 4 (Za M++D))) (e:Int):frz3 0 H (.tup [.own id 4 0 M.length,.int .i64 e])=some (.tup [slV true 4 (Za M),.int .i64 e]):=by
 have h:frzC 0 H (.own id 4 0 M.length)=some (slV true 4 (Za M)):=ZnD hM hH
 show (match Wn 0 _ [.own id 4 0 M.length,.int .i64 e] with|some vs'=>some (PV.tup vs')|none=>none)=_
 simp only [Wn,frz2,h]
 rfl
theorem Qk (m:Nat) (H:Heap) (M:List Tm) (e:Int):frz3 m H (.tup [slV true 4 (Za M),.int .i64 e])=some (.tup [slV true 4 (Za M),.int .i64 e]):=by
 rcases VB true (Za M) with h|⟨el,h⟩<;>rw [h]<;>rfl
theorem Zau {l:List Tm} (h:l≠ []) {N:Nat} (hs:∀ t,t∈l→t.size≤N):XW l≠ []:=by
 have hp:=VV h hs
 exact ZmM (fun e=>h (List.length_eq_zero_iff.1 (by rw [← hp.length_eq,e];rfl))) _ (List.length_pos_iff.2 h)
end Go.Vm.Seat
namespace Go.Vm
end Go.Vm
namespace Go.Vm.Seat
open Go.Proofs
end Go.Vm.Seat
namespace Go.Vm
def Ca.zero:Ca:=⟨true,[],true,[]⟩
end Go.Vm
namespace Go.Vm.Seat
open Go.Proofs
theorem XO (l:List Bs):noB (Zp l)=true:=by
 simp only [Zp,noB,List.all_map,List.all_eq_true]
 intro x _
 rfl
theorem Uz (l:List Bs):(Zp l).all (fun c=>c.all ZX)=true:=by
 simp only [Zp,List.all_map,List.all_eq_true]
 intro x _
 rfl
theorem X3 (a b:List Bs):Zp (a++b)=Zp a++Zp b:=by simp [Zp]
end Go.Vm.Seat
namespace Go.Vm
end Go.Vm
namespace Go.Vm.Seat
open Go.Proofs
theorem Zfq (b b2:Bool) (L M:List (List PV)):[slV b 1 L,slV b2 1 M].all ZX=true:=by
 simp only [List.all_cons,List.all_nil,Yt,Bool.and_true]
end Go.Vm.Seat
namespace Go.Vm
end Go.Vm
namespace Go.Vm.Seat
open Go.Proofs
structure TrF (l:List Mo):Prop where
 s:TrS l
 n:l.length≤420
 t:∀ m,m∈l→m.terms.length≤14
theorem X8 {l:List Mo} (h:TrS l):∀ t,t∈Yk l→t.Ok∧t.size≤90000:=fun t ht=>by
 obtain ⟨m,hm,ht⟩:=List.mem_flatMap.1 ht
 split at ht
 · exact (h.2 m hm).ts t ht
 · cases ht
theorem Zta {C:Box} {L S:List Tm} (hl:L.length≤10000) (hs:S.length≤10000) (b:Bool):∃ id bx,ZA E0 29 29 (.own 1 4 0 L.length) (slV b 4 (Za S)) ⟨[C,.cells 4 (Za L)],0,[],0⟩=some (.own id 4 0 (L++S).length,⟨bx,0,[],0⟩)∧bx[id]? = some (.cells 4 (Za (L++S))):=by
 have hsm:=ZgR (H:=⟨[C,.cells 4 (Za L)],0,[],0⟩) (id:=1) (M:=L) rfl
 have he:=ZQ (s:= .own 1 4 0 L.length) Yh (ElV.slV b 4 (Za S)) (Zn _) rfl rfl ⟨[C,.cells 4 (Za L)],0,[],0⟩
 cases hS:Za S with
 | nil =>
   have hS2:S= []:=List.length_eq_zero_iff.1 (by rw [← Zb S,hS];rfl)
   rw [hS] at he
   refine ⟨1,[C,.cells 4 (Za L)],?_,by rw [hS2,List.append_nil];rfl⟩
   simp only [ZA,he]
   rw [hS2,List.append_nil]
 | cons y yr =>
   rw [hS] at he
   have hyl:(y::yr).length=S.length:=by rw [← hS,Zb]
   refine ⟨2,[C,.dead,.cells 4 (Za (L++S))],?_,rfl⟩
   simp only [ZA,he,Yu,Wj,hsm]
   rw [if_pos ⟨trivial,Nat.zero_le _,Zb L,ZD (by rw [Zb,hyl];omega) (by decide)⟩,Zt,hS,Zb,hyl,List.length_append]
   rfl
