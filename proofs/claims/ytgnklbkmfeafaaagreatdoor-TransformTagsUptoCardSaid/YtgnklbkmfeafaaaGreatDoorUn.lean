/-
  What is declared: the program's text.
-/
import Derived.Test.YtgnklbkmfeafaaaGreatDoorUh
import Derived.Test.YtgnklbkmfeafaaaGreatDoorUm
set_option maxHeartbeats 0
set_option maxRecDepth 100000
namespace Go.Vm
def isR (s x:Zg):Bool:=decide (x=s)
theorem ZgB (l:List Zg) (s:Zg):decide (0≤XS (isR s) l 0)=ZU l s:=(VR (isR s) l 0).symm
theorem Zfh (l:List Zg) (s:Zg):decide (XS (isR s) l 0<0)= !ZU l s:=by
 have h:=ZgB l s
 by_cases c:0≤XS (isR s) l 0
 · rw [decide_eq_true c] at h
   rw [← h,decide_eq_false (by omega)];rfl
 · rw [decide_eq_false c] at h
   rw [← h,decide_eq_true (by omega)];rfl
theorem Zbu {a b:Option Nat} (h:a=none∨a≠b):b=none∨b≠a:=by
 rcases h with h|h
 · cases b with
   | none=>exact .inl rfl
   | some x=>exact .inr (by rw [h];simp)
 · exact .inr (Ne.symm h)
theorem WW (l:List Int):noB (Xy l)=true:=by
 rw [noB,Xy,List.all_map,List.all_eq_true]
 intro x _
 rfl
theorem WP (l:List Int):(Xy l).all (fun c=>c.all Zp)=true:=by
 rw [Xy,List.all_map,List.all_eq_true]
 intro x _
 rfl
theorem W3 (a b:List Int):Xy (a++b)=Xy a++Xy b:=by simp [Xy]
end Go.Vm
namespace Go.Vm.Seat
variable {A:List Zg} {B:List Int} {o1 o2:PV} {lv:List Nat} {nt:Nat}
open Go.Proofs
theorem ZaH:ApT E0 36 36 1 8:=⟨_,_,_,_,_,rfl,rfl,rfl,rfl,rfl,rfl,rfl,by decide,rfl⟩
theorem ZgZ {l:List Zg} (hlen:l.length≤1100000) (v:Zg) (b:Bool):∀ H,CallOk E0 Tryz.prog 141 [slV b 1 (Zi l),.str v] H (.int .i64 (XS (isR v) l 0)) H:=by
 have hsl:=ZC l
 refine Jw tOk fe141.ok rfl ?_
 repeat' first|refine Ji ?_|refine JJ ?_|refine Jl ?_|refine Jx ?_|refine Jt ?_|refine Jb ?_ ?_|refine Jo ?_|intro hb
 refine Wp.while (fun m tm H=>∃ (i:Nat) (base:TM),i+m=l.length∧XS (isR v) l 0=XS (isR v) (l.drop i) i∧tm=ovr base [(0,slV b 1 (Zi l)),(1,.str v),(5,.int .i64 (i:Int))]∧H=⟨[],0,[],0⟩)
  (fun m tm H hI=>?_) l.length _ _ ⟨0,_,by omega,by simp,Zf ⟨rfl,rfl,rfl,trivial⟩,rfl⟩
 obtain ⟨i,base,hi,hgo,rfl,rfl⟩:=hI
 rw [hgo]
 have hlx:=Zn (i:Int) ((Zi l).length:Int)
 by_cases hlt:i<l.length
 · obtain ⟨a, ha⟩ : ∃ a, l[i]? = some a := ⟨l[i], by simp⟩
   have hj:=Yf ha
   have he:WL E0 .eql 9 (.str a) (.str v)=some (.bool (isR v a)):=Y1 a v
   rw [decide_eq_true (by omega)] at hlx
   have hii:=Zy (a:=(i:Int)) (b:=1) (by omega) (by omega)
   rw [show (i:Int)+1=((i+1:Nat):Int) by omega] at hii
   rw [Ut ha]
   generalize isR v a=B at he ⊢
   cases B with
   | true =>
     rw [if_pos rfl]
     repeat' first|refine Ji ?_|refine JJ ?_|refine Jl ?_|refine Jx ?_|refine Jt ?_|refine Jb ?_ ?_|refine Jo ?_|intro hb
     all_goals rfl
   | false =>
     rw [if_neg (by simp)]
     repeat' first|refine Ji ?_|refine JJ ?_|refine Jl ?_|refine Jx ?_|refine Jt ?_|refine Jb ?_ ?_|refine Jo ?_|intro hb
     exact LoopI.go (m-1) (by omega) ⟨i+1,_,by omega,rfl,Zf ⟨rfl,rfl,rfl,trivial⟩,rfl⟩
 · have e : i = l.length := by omega
   subst e
   rw [decide_eq_false (by omega)] at hlx
   rw [List.drop_length]
   repeat' first|refine Ji ?_|refine JJ ?_|refine Jl ?_|refine Jx ?_|refine Jt ?_|refine Jb ?_ ?_|refine Jo ?_|intro hb
   all_goals rfl
def Two (A:List Zg) (B:List Int) (o1 o2:PV) (lv:List Nat) (nt:Nat):Prop:=ApV true 1 (Zi A) o1 lv nt∧ApV true 1 (Xy B) o2 lv nt∧(Z7 o2=none∨Z7 o2≠Z7 o1)
theorem ZaV (h : Two A B o1 o2 lv nt) (hl : A.length ≤ 1000) (hm : B.length ≤ 1000) (s : Zg) (n : Int) :
  ∃ o3 o4 lv1 nt1 lv2 nt2,(∀ bx ro,ZL E0 22 22 o1 (.sl .full 1 [[.str s]]) ⟨bx,ro,lv,nt⟩=some (o3,⟨bx,ro,lv1,nt1⟩))∧(∀ bx ro,ZL E0 36 36 o2 (.sl .full 1 [[.int .i64 n]]) ⟨bx,ro,lv1,nt1⟩=some (o4,⟨bx,ro,lv2,nt2⟩))∧Two (A++ [s]) (B++ [n]) o3 o4 lv2 nt2:=by
 obtain ⟨hA,hB,ht⟩:=h
 obtain ⟨o3,lv1,nt1,hap,hA2,hk⟩:=hA.app XW (.sl .full 1 [[.str s]]) (YJ [s]) (ZH (by rw [ZC];simp;omega) (by decide)) (Yz [s])
 rw [show Zi A++ [[.str s]]=Zi (A++ [s]) by rw [VZ];rfl] at hA2
 obtain ⟨hB1,ht1⟩:=hk _ _ _ _ hB ht
 obtain ⟨o4,lv2,nt2,hap2,hB2,hk2⟩:=hB1.app ZaH (.sl .full 1 [[.int .i64 n]]) (WP [n]) (ZH (by rw [Wl];simp;omega) (by decide)) (WW [n])
 rw [show Xy B++ [[.int .i64 n]]=Xy (B++ [n]) by rw [W3];rfl] at hB2
 obtain ⟨hA3,ht3⟩:=hk2 _ _ _ _ hA2 (Zbu ht1)
 exact ⟨o3,o4,lv1,nt1,lv2,nt2,hap,hap2,hA3,hB2,Zbu ht3⟩
theorem Zgv (h:Two A B o1 o2 lv nt) (m:Nat) (H:Heap):frz3 m H (.tup [o1,o2])=some (.tup [slV true 1 (Zi A),slV true 1 (Xy B)]):=by
 rw [YL]
 simp only [Xn,h.1.frz2,h.2.1.frz2]
theorem c74 {n:Na} (h:n.Sm):∃ so:List Int,∀ H,CallOk E0 Tryz.prog 74 [.agg n.cells] H (.tup [slV true 1 (Zi n.nms),slV true 1 (Xy so)]) H:=by
 have hrl:=h.rl
 have hfl:=h.fl
 have htl:=h.tl
 clear h
 obtain ⟨nm,rn,rs,fn,fr,tn,ts,sn,ss,gn,gs⟩:=n
 simp only [Na.cells,Na.nms] at hrl hfl htl ⊢
 have e1:=ZC rs
 have e2:=YI fr
 have e3:=ZC ts
 refine ⟨rs.map (fun _=>1)++(fr.map (·.sort)++ts.map fun _=>5),?_⟩
 refine Xh (own:=fun d=>[5042,5051].any (Nat.beq d)) tOk fe74.ok (by simp only [Zt,Zj]) (by rw [YL];simp only [Xn,QD]) ?_
 refine Wp.seq ?_
 repeat' first|refine Js ?_|refine JA ?_|refine Ji ?_|refine JJ ?_|refine Jl ?_|refine Jx ?_|refine Jt ?_|refine Jb ?_ ?_|refine Jo ?_|refine JB ?_|(apply dAq;rfl;rfl;rfl;rfl;rfl;rfl;(first|assumption|solve_by_elim))|(apply dAp;rfl;rfl;rfl;rfl;rfl;(first|assumption|solve_by_elim);rfl)|refine JD ?_|refine JK ?_|(apply dLn;rfl;rfl;rfl;rfl;rfl)|refine JI ?_|(apply dT (ty:=4);rfl;rfl;rfl;rfl)|(apply dF (ty:=4);rfl;rfl;rfl;rfl)|(apply dB (ty:=4);rfl;rfl;rfl;rfl)|refine Jh ?_|(apply Wp.draw tOk follows;kernel_rfl)|intro hb
 refine Wp.while (fun m2 tm H=>∃ (i:Nat) (base:TM) (o1 o2:PV) (lv:List Nat) (nt:Nat),i+m2=rs.length∧Two (rs.take i) ((rs.map fun _=>(1:Int)).take i) o1 o2 lv nt∧tm=ovr base [(1,.ptr 0 6 0 0),(4,o1),(5,o2),(6,.int .i64 (i:Int))]∧H=⟨[naB nm rn rs fn fr tn ts sn ss gn gs],0,lv,nt⟩)
  (fun m2 tm H hI=>?_) rs.length _ _ ⟨0,_,_,_,_,_,by omega,⟨.nil _ _ rfl,.nil _ _ rfl,.inl rfl⟩,Zf ⟨rfl,rfl,rfl,rfl,trivial⟩,rfl⟩
 obtain ⟨i,base,o1,o2,lv,nt,hi,hA,rfl,rfl⟩:=hI
 have hlx:=Zn (i:Int) ((Zi rs).length:Int)
 by_cases hlt:i<rs.length
 · rw [decide_eq_true (by omega)] at hlx
   obtain ⟨x,hx⟩:∃ x,rs[i]? = some x:=⟨rs[i],by simp⟩
   have hj:=Yf hx
   have hii:=Zy (a:=(i:Int)) (b:=1) (by omega) (by omega)
   rw [show (i:Int)+1=((i+1:Nat):Int) by omega] at hii
   obtain ⟨o3,o4,lv1,nt1,lv2,nt2,hap,hap2,hA2⟩:=ZaV hA (by simp;omega) (by simp;omega) x 1
   rw [show rs.take i++ [x]=rs.take (i+1) by rw [List.take_add_one,hx];rfl,show (rs.map fun _=>(1:Int)).take i++ [1]=(rs.map fun _=>(1:Int)).take (i+1) by rw [List.take_add_one,List.getElem?_map,hx];rfl] at hA2
   clear hA
   repeat' first|refine Js ?_|refine JA ?_|refine Ji ?_|refine JJ ?_|refine Jl ?_|refine Jx ?_|refine Jt ?_|refine Jb ?_ ?_|refine Jo ?_|refine JB ?_|(apply dAq;rfl;rfl;rfl;rfl;rfl;rfl;(first|assumption|solve_by_elim))|(apply dAp;rfl;rfl;rfl;rfl;rfl;(first|assumption|solve_by_elim);rfl)|refine JD ?_|refine JK ?_|(apply dLn;rfl;rfl;rfl;rfl;rfl)|refine JI ?_|(apply dT (ty:=4);rfl;rfl;rfl;rfl)|(apply dF (ty:=4);rfl;rfl;rfl;rfl)|(apply dB (ty:=4);rfl;rfl;rfl;rfl)|refine Jh ?_|(apply Wp.draw tOk follows;kernel_rfl)|intro hb
   exact LoopI.go (m2-1) (by omega) ⟨i+1,_,o3,o4,lv2,nt2,by omega,hA2,Zf ⟨rfl,rfl,rfl,rfl,trivial⟩,rfl⟩
 have e:i=rs.length:=by omega
 subst e
 rw [decide_eq_false (by omega)] at hlx
 rw [List.take_length,List.take_of_length_le (by simp)] at hA
 repeat' first|refine Js ?_|refine JA ?_|refine Ji ?_|refine JJ ?_|refine Jl ?_|refine Jx ?_|refine Jt ?_|refine Jb ?_ ?_|refine Jo ?_|refine JB ?_|(apply dAq;rfl;rfl;rfl;rfl;rfl;rfl;(first|assumption|solve_by_elim))|(apply dAp;rfl;rfl;rfl;rfl;rfl;(first|assumption|solve_by_elim);rfl)|refine JD ?_|refine JK ?_|(apply dLn;rfl;rfl;rfl;rfl;rfl)|refine JI ?_|(apply dT (ty:=4);rfl;rfl;rfl;rfl)|(apply dF (ty:=4);rfl;rfl;rfl;rfl)|(apply dB (ty:=4);rfl;rfl;rfl;rfl)|refine Jh ?_|(apply Wp.draw tOk follows;kernel_rfl)|intro hb
 refine Wp.while (fun m2 tm H=>∃ (i:Nat) (base:TM) (o1 o2:PV) (lv:List Nat) (nt:Nat),i+m2=fr.length∧Two (rs++(fr.map (·.name)).take i) ((rs.map fun _=>(1:Int))++(fr.map (·.sort)).take i) o1 o2 lv nt∧tm=ovr base [(1,.ptr 0 6 0 0),(4,o1),(5,o2),(7,.int .i64 (i:Int))]∧H=⟨[naB nm rn rs fn fr tn ts sn ss gn gs],0,lv,nt⟩)
  (fun m2 tm H hI=>?_) fr.length _ _ ⟨0,_,o1,o2,lv,nt,by omega,by simpa using hA,Zf ⟨rfl,rfl,rfl,rfl,trivial⟩,rfl⟩
 clear hA hlx hi hlt
 obtain ⟨i,base,o1,o2,lv,nt,hi,hA,rfl,rfl⟩:=hI
 have hlx:=Zn (i:Int) ((frC fr).length:Int)
 by_cases hlt:i<fr.length
 · rw [decide_eq_true (by omega)] at hlx
   obtain ⟨x,hx⟩:∃ x,fr[i]? = some x:=⟨fr[i],by simp⟩
   have hj:=Wb hx
   have hii:=Zy (a:=(i:Int)) (b:=1) (by omega) (by omega)
   rw [show (i:Int)+1=((i+1:Nat):Int) by omega] at hii
   obtain ⟨o3,o4,lv1,nt1,lv2,nt2,hap,hap2,hA2⟩:=ZaV hA (by simp;omega) (by simp;omega) x.name x.sort
   rw [List.append_assoc,List.append_assoc,show (fr.map (·.name)).take i++ [x.name]=(fr.map (·.name)).take (i+1) by rw [List.take_add_one,List.getElem?_map,hx];rfl,show (fr.map (·.sort)).take i++ [x.sort]=(fr.map (·.sort)).take (i+1) by rw [List.take_add_one,List.getElem?_map,hx];rfl] at hA2
   clear hA
   repeat' first|refine Js ?_|refine JA ?_|refine Ji ?_|refine JJ ?_|refine Jl ?_|refine Jx ?_|refine Jt ?_|refine Jb ?_ ?_|refine Jo ?_|refine JB ?_|(apply dAq;rfl;rfl;rfl;rfl;rfl;rfl;(first|assumption|solve_by_elim))|(apply dAp;rfl;rfl;rfl;rfl;rfl;(first|assumption|solve_by_elim);rfl)|refine JD ?_|refine JK ?_|(apply dLn;rfl;rfl;rfl;rfl;rfl)|refine JI ?_|(apply dT (ty:=4);rfl;rfl;rfl;rfl)|(apply dF (ty:=4);rfl;rfl;rfl;rfl)|(apply dB (ty:=4);rfl;rfl;rfl;rfl)|refine Jh ?_|(apply Wp.draw tOk follows;kernel_rfl)|intro hb
   exact LoopI.go (m2-1) (by omega) ⟨i+1,_,o3,o4,lv2,nt2,by omega,hA2,Zf ⟨rfl,rfl,rfl,rfl,trivial⟩,rfl⟩
 have e:i=fr.length:=by omega
 subst e
 rw [decide_eq_false (by omega)] at hlx
 rw [List.take_of_length_le (by simp),List.take_of_length_le (by simp)] at hA
 repeat' first|refine Js ?_|refine JA ?_|refine Ji ?_|refine JJ ?_|refine Jl ?_|refine Jx ?_|refine Jt ?_|refine Jb ?_ ?_|refine Jo ?_|refine JB ?_|(apply dAq;rfl;rfl;rfl;rfl;rfl;rfl;(first|assumption|solve_by_elim))|(apply dAp;rfl;rfl;rfl;rfl;rfl;(first|assumption|solve_by_elim);rfl)|refine JD ?_|refine JK ?_|(apply dLn;rfl;rfl;rfl;rfl;rfl)|refine JI ?_|(apply dT (ty:=4);rfl;rfl;rfl;rfl)|(apply dF (ty:=4);rfl;rfl;rfl;rfl)|(apply dB (ty:=4);rfl;rfl;rfl;rfl)|refine Jh ?_|(apply Wp.draw tOk follows;kernel_rfl)|intro hb
 refine Wp.while (fun m2 tm H=>∃ (i:Nat) (base:TM) (o1 o2:PV) (lv:List Nat) (nt:Nat),i+m2=ts.length∧Two (rs++(fr.map (·.name)++ts.take i)) ((rs.map fun _=>(1:Int))++(fr.map (·.sort)++(ts.map fun _=>(5:Int)).take i)) o1 o2 lv nt∧tm=ovr base [(1,.ptr 0 6 0 0),(4,o1),(5,o2),(8,.int .i64 (i:Int))]∧H=⟨[naB nm rn rs fn fr tn ts sn ss gn gs],0,lv,nt⟩)
  (fun m2 tm H hI=>?_) ts.length _ _ ⟨0,_,o1,o2,lv,nt,by omega,by simpa using hA,Zf ⟨rfl,rfl,rfl,rfl,trivial⟩,rfl⟩
 clear hA hlx hi hlt
 obtain ⟨i,base,o1,o2,lv,nt,hi,hA,rfl,rfl⟩:=hI
 have hlx:=Zn (i:Int) ((Zi ts).length:Int)
 by_cases hlt:i<ts.length
 · rw [decide_eq_true (by omega)] at hlx
   obtain ⟨x,hx⟩:∃ x,ts[i]? = some x:=⟨ts[i],by simp⟩
   have hj:=Yf hx
   have hii:=Zy (a:=(i:Int)) (b:=1) (by omega) (by omega)
   rw [show (i:Int)+1=((i+1:Nat):Int) by omega] at hii
   obtain ⟨o3,o4,lv1,nt1,lv2,nt2,hap,hap2,hA2⟩:=ZaV hA (by simp;omega) (by simp;omega) x 5
   rw [List.append_assoc,List.append_assoc,List.append_assoc,List.append_assoc,show ts.take i++ [x]=ts.take (i+1) by rw [List.take_add_one,hx];rfl,show (ts.map fun _=>(5:Int)).take i++ [5]=(ts.map fun _=>(5:Int)).take (i+1) by rw [List.take_add_one,List.getElem?_map,hx];rfl] at hA2
   clear hA
   repeat' first|refine Js ?_|refine JA ?_|refine Ji ?_|refine JJ ?_|refine Jl ?_|refine Jx ?_|refine Jt ?_|refine Jb ?_ ?_|refine Jo ?_|refine JB ?_|(apply dAq;rfl;rfl;rfl;rfl;rfl;rfl;(first|assumption|solve_by_elim))|(apply dAp;rfl;rfl;rfl;rfl;rfl;(first|assumption|solve_by_elim);rfl)|refine JD ?_|refine JK ?_|(apply dLn;rfl;rfl;rfl;rfl;rfl)|refine JI ?_|(apply dT (ty:=4);rfl;rfl;rfl;rfl)|(apply dF (ty:=4);rfl;rfl;rfl;rfl)|(apply dB (ty:=4);rfl;rfl;rfl;rfl)|refine Jh ?_|(apply Wp.draw tOk follows;kernel_rfl)|intro hb
   exact LoopI.go (m2-1) (by omega) ⟨i+1,_,o3,o4,lv2,nt2,by omega,hA2,Zf ⟨rfl,rfl,rfl,rfl,trivial⟩,rfl⟩
 have e:i=ts.length:=by omega
 subst e
 rw [decide_eq_false (by omega)] at hlx
 rw [List.take_length,List.take_of_length_le (by simp)] at hA
 have hfr:=fun m H=>Zgv hA m H
 repeat' first|refine Js ?_|refine JA ?_|refine Ji ?_|refine JJ ?_|refine Jl ?_|refine Jx ?_|refine Jt ?_|refine Jb ?_ ?_|refine Jo ?_|refine JB ?_|(apply dAq;rfl;rfl;rfl;rfl;rfl;rfl;(first|assumption|solve_by_elim))|(apply dAp;rfl;rfl;rfl;rfl;rfl;(first|assumption|solve_by_elim);rfl)|refine JD ?_|refine JK ?_|(apply dLn;rfl;rfl;rfl;rfl;rfl)|refine JI ?_|(apply dT (ty:=4);rfl;rfl;rfl;rfl)|(apply dF (ty:=4);rfl;rfl;rfl;rfl)|(apply dB (ty:=4);rfl;rfl;rfl;rfl)|refine Jh ?_|(apply Wp.draw tOk follows;kernel_rfl)|intro hb
 all_goals exact hfr _ _
end Go.Vm.Seat
namespace Go.Vm
def nxE (seen:List Zg) (s:Zg) (f:Bool):Int:=if s.contains 35=true then 2 else if f=true∧(s= [101]∨s= [103]) then 1 else if ZU seen s=true then 5 else 0
theorem ZfV (R seen : List Zg) (s : Zg) (o : Option Zg) : itE R seen (s, o) = if nxE seen s o.isSome ≠ 0 then nxE seen s o.isSome else match o with
  | some r=>if ZU R r=true then 0 else 13
  | none=>0:=by
 unfold itE nxE
 by_cases h1:s.contains 35=true
 · simp only [if_pos h1];rfl
 rw [if_neg h1,if_neg h1]
 by_cases h2:o≠none∧(s= [101]∨s= [103])
 · rw [if_pos h2,if_pos (show o.isSome=true∧(s= [101]∨s= [103]) from ⟨by cases o with|none=>exact absurd rfl h2.1|some _=>rfl,h2.2⟩)];rfl
 rw [if_neg h2,if_neg (show ¬ (o.isSome=true∧(s= [101]∨s= [103])) from fun h=>h2 ⟨by intro e;rw [e] at h;simp at h,h.2⟩)]
 by_cases h3:ZU seen s=true
 · rw [if_pos h3,if_pos h3];rfl
 · rw [if_neg h3, if_neg h3, if_neg (show ¬ ((0 : Int) ≠ 0) by decide)]
   rfl
theorem Zhb {es:Nat} {L:List (List PV)} {out:PV} {lv:List Nat} {nt:Nat} (h:ApV true es L out lv nt) (hL:L≠ []):∃ k,out= .sl (.tok k) es L:=by
 cases h with
 |nil=>exact absurd rfl hL
 |full _ _ _ hb=>cases hb
 |tok _ k=>exact ⟨k,rfl⟩
end Go.Vm
namespace Go.Vm.Seat
open Go.Proofs
theorem ZgN (B0 : Box) {seen : List Zg} {out : PV} {lv : List Nat} {nt : Nat} (hA : ApV true 1 (Zi seen) out lv nt) (hl : seen.length ≤ 1000) (s : Zg) (f : Bool) :
  ∃ out' lv' nt' seen',CallOk E0 Tryz.prog 103 [.str s,.bool f,.ptr 1 1 0 0] ⟨[B0,.cells 1 [[out]]],0,lv,nt⟩ (.int .i64 (nxE seen s f)) ⟨[B0,.cells 1 [[out']]],0,lv',nt'⟩∧ApV true 1 (Zi seen') out' lv' nt'∧(nxE seen s f=0→seen'=seen++ [s]):=by
 have h35:=Zie s
 have he:=Y1 s [101]
 have hg:=Y1 s [103]
 have hC:∀ H,CallOk E0 Tryz.prog 105 [out,.str s] H (.bool (ZU seen s)) H:=fun H=>Z0 (ZfT (by omega) s true hNil) (by simp only [Zt,hA.frzG];rfl) rfl H
 have same:nxE seen s f≠0→CallOk E0 Tryz.prog 103 [.str s,.bool f,.ptr 1 1 0 0] ⟨[B0,.cells 1 [[out]]],0,lv,nt⟩ (.int .i64 (nxE seen s f)) ⟨[B0,.cells 1 [[out]]],0,lv,nt⟩→∃ out' lv' nt' seen',CallOk E0 Tryz.prog 103 [.str s,.bool f,.ptr 1 1 0 0] ⟨[B0,.cells 1 [[out]]],0,lv,nt⟩ (.int .i64 (nxE seen s f)) ⟨[B0,.cells 1 [[out']]],0,lv',nt'⟩∧ApV true 1 (Zi seen') out' lv' nt'∧(nxE seen s f=0→seen'=seen++ [s]):=
  fun h k=>⟨out,lv,nt,seen,k,hA,fun e=>absurd e h⟩
 cases c1:s.contains 35 with
 | true =>
   rw [c1] at h35
   have hn:nxE seen s f=2:=if_pos c1
   refine same (by rw [hn];decide) ?_
   rw [hn]
   refine Zs (own:=fun _=>false) tOk fe103.ok ?_
   refine Wp.seq ?_
   repeat' first|refine Jk ?_|refine Jc (h35 _) ?_|refine Js ?_|refine JA ?_|refine Ji ?_|refine Jt ?_|refine Jb ?_ ?_|refine Jo ?_|intro hb
   exact RetE.ret rfl rfl rfl
 |false=>
 rw [c1] at h35
 have hx:nxE seen s f=if f=true∧(s= [101]∨s= [103]) then 1 else if ZU seen s=true then 5 else 0:=if_neg (by rw [c1];simp)
 by_cases c2:f=true∧(s= [101]∨s= [103])
 · have hn : nxE seen s f = 1 := hx.trans (if_pos c2)
   refine same (by rw [hn];decide) ?_
   rw [hn]
   obtain ⟨rfl,c2⟩:=c2
   by_cases c3:s= [101]
   · rw [decide_eq_true c3] at he
     clear same hx hn c1 c2 c3
     refine Zs (own:=fun _=>false) tOk fe103.ok ?_
     refine Wp.seq ?_
     repeat' first|refine Jk ?_|refine Jc (h35 _) ?_|refine Js ?_|refine JA ?_|refine Ji ?_|refine Jt ?_|refine Jb ?_ ?_|refine Jo ?_|intro hb
     exact RetE.ret rfl rfl rfl
   · rw [decide_eq_false c3] at he
     rw [decide_eq_true (c2.resolve_left c3)] at hg
     clear same hx hn c1 c2 c3
     refine Zs (own:=fun _=>false) tOk fe103.ok ?_
     refine Wp.seq ?_
     repeat' first|refine Jk ?_|refine Jc (h35 _) ?_|refine Js ?_|refine JA ?_|refine Ji ?_|refine Jt ?_|refine Jb ?_ ?_|refine Jo ?_|intro hb
     exact RetE.ret rfl rfl rfl
 rw [if_neg c2] at hx
 have hf:f=false∨(f=true∧s≠ [101]∧s≠ [103]):=by
  cases f with
  | false=>exact .inl rfl
  | true=>exact .inr ⟨rfl,fun h=>c2 ⟨rfl,.inl h⟩,fun h=>c2 ⟨rfl,.inr h⟩⟩
 cases c4:ZU seen s with
 | true =>
   have hn:nxE seen s f=5:=hx.trans (if_pos c4)
   rw [c4] at hC
   refine same (by rw [hn];decide) ?_
   rw [hn]
   clear same hx hn c1 c2 c4
   rcases hf with rfl|⟨rfl,c5,c6⟩
   · refine Zs (own := fun _ => false) tOk fe103.ok ?_
     refine Wp.seq ?_
     repeat' first|refine Jk ?_|refine Jc (h35 _) ?_|refine Jc (hC _) ?_|refine Js ?_|refine JA ?_|refine Ji ?_|refine Jt ?_|refine Jb ?_ ?_|refine Jo ?_|intro hb
     exact RetE.ret rfl rfl rfl
   · rw [decide_eq_false c5] at he
     rw [decide_eq_false c6] at hg
     refine Zs (own:=fun _=>false) tOk fe103.ok ?_
     refine Wp.seq ?_
     repeat' first|refine Jk ?_|refine Jc (h35 _) ?_|refine Jc (hC _) ?_|refine Js ?_|refine JA ?_|refine Ji ?_|refine Jt ?_|refine Jb ?_ ?_|refine Jo ?_|intro hb
     exact RetE.ret rfl rfl rfl
 | false =>
   have hn:nxE seen s f=0:=hx.trans (if_neg (by rw [c4];simp))
   rw [c4] at hC
   rw [hn]
   obtain ⟨o2,lv2,nt2,hap,hA2, -⟩:=hA.app XW (.sl .full 1 [[.str s]]) (YJ [s]) (ZH (by rw [ZC];simp;omega) (by decide)) (Yz [s])
   rw [show Zi seen++ [[.str s]]=Zi (seen++ [s]) by rw [VZ];rfl] at hA2
   obtain ⟨k,rfl⟩:=Zhb hA2 (by simp [Zi])
   refine ⟨_,lv2,nt2,seen++ [s],?_,hA2,fun _=>rfl⟩
   clear same hx hn c1 c2 c4 hA2
   rcases hf with rfl|⟨rfl,c5,c6⟩
   · refine Zs (own := fun _ => false) tOk fe103.ok ?_
     refine Wp.seq ?_
     repeat' first|refine Jk ?_|refine Jc (h35 _) ?_|refine Jc (hC _) ?_|refine Js ?_|refine JA ?_|refine Ji ?_|refine Jt ?_|refine Jb ?_ ?_|refine Jo ?_|intro hb
     exact RetE.ret rfl rfl rfl
   · rw [decide_eq_false c5] at he
     rw [decide_eq_false c6] at hg
     refine Zs (own:=fun _=>false) tOk fe103.ok ?_
     refine Wp.seq ?_
     repeat' first|refine Jk ?_|refine Jc (h35 _) ?_|refine Jc (hC _) ?_|refine Js ?_|refine JA ?_|refine Ji ?_|refine Jt ?_|refine Jb ?_ ?_|refine Jo ?_|intro hb
     exact RetE.ret rfl rfl rfl
