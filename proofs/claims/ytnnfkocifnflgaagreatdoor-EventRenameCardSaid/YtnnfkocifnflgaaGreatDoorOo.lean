/-
  A power is put among powers that stand in order: exponent.insert.
-/
import Derived.Test.YtnnfkocifnflgaaGreatDoorOl
set_option maxHeartbeats 0
set_option maxRecDepth 100000
namespace Go.Vm.Seat
variable {f:FuncId} {args:List PV} {H H':Heap} {r v0:PV} {x y:Pw} {M l:List Pw} {n:Int} {i:Nat} {t:Tm} {L:List Box}
open Go.Proofs
noncomputable def E3:Env:={E0 with eff:=fun f=>E0.eff f||Nat.beq f 185}
theorem ZhH:TOk E3 Tryz.prog:=⟨fun _ _ h=>Zcv h⟩
theorem Zkz (h:CallOk E0 Tryz.prog f args H r H'):CallOk E3 Tryz.prog f args H r H':=h.env rfl
theorem Zpp (h:CallOk E3 Tryz.prog f args H r H'):CallOk E0 Tryz.prog f args H r H':=h.env rfl
theorem ZkA (y:Pw):(pwC y).all Z3=true:=by
 have:=Qa [y]
 simpa [pwL] using this
theorem Znr {id:Nat} (hb:nth H.bx id=some (.cells 5 [pwC y])) {s:PV} (h1:Wt 5 s=5) (h2:Zjs s=true):XF E0 106 106 s (.own id 5 0 1) H=some (5,64,[pwC y]):=by
 have hy:Yc [pwC y]=some [pwC y]:=Y0 [y]
 have hok:[pwC y].all (fun c=>c.all Z3)=true:=Qa [y]
 have hx:Y9 H (.own id 5 0 1)=some [pwC y]:=by
  simp only [Y9,hb]
  show (if 5=5∧0+1≤1 then Yc [pwC y] else none)=_
  rw [if_pos (by omega),hy]
 obtain ⟨ti,ui,e,f,ei,q1,q2,q3,q4,q5,q6,q7,q8,q9⟩:=apT_pw.h
 have q6':=q6
 have q7':=q7
 simp only [XF,q1,q3,q5]
 rw [if_pos ⟨q8,q9,by rw [q6'];exact h1,by rw [q6'];rfl⟩,hx]
 simp only [hok,h2,and_self,if_true,q6',q7']
theorem Zdg {id:Nat} (hb:nth H.bx id=some (.cells 5 (pwL M))):Y9 H (.own id 5 0 M.length)=some (pwL M):=by
 simp only [Y9,hb]
 rw [if_pos ⟨trivial,by rw [ZK];omega⟩,List.drop_zero, ← ZK M,List.take_length,Y0]
theorem Zly {id k n:Nat} (h:k≤n):Xj E0 106 (.own id 5 0 n) (some (.int .i64 (k:Int))) none none=some (.own id 5 (0+k) (n-k)):=by
 obtain ⟨ti,e,et⟩:∃ ti,E0.T 106=some ti∧ti.tk= .slice 146:=⟨_,rfl,rfl⟩
 obtain ⟨ei,e2,e3⟩:∃ ei,E0.T 146=some ei∧ei.size=5:=⟨_,rfl,rfl⟩
 have hn:nat? (.int .i64 (k:Int))=some k:=by simp [nat?]
 simp only [Xj,e,et,e2,e3,if_true,Wf,hn,if_pos h]
theorem ZlU (P:Box):CallOk E0 Tryz.prog 185 [.nils,.int .i64 0,.own 1 5 0 1] ⟨[P,.cells 5 [pwC y]],0,[],0⟩ (.own 2 5 0 1) ⟨[P,.cells 5 [pwC y],.cells 5 [pwC y]],0,[],0⟩:=by
 have hap:ZO E0 106 106 .nils (.own 1 5 0 1) ⟨[P,.cells 5 [pwC y]],0,[],0⟩=some (.own 2 5 0 1,⟨[P,.cells 5 [pwC y],.cells 5 [pwC y]],0,[],0⟩):=by
  have he:=Znr (y:=y) (H:=⟨[P,.cells 5 [pwC y]],0,[],0⟩) (id:=1) rfl (s:= .nils) rfl rfl
  simp only [ZO,he,YQ]
  rfl
 refine Yy (own:=fun d=>Nat.beq d 25) tOk fe185.ok ?_
 refine Wp.seq ?_
 repeat' first|refine JA ?_|refine JS ?_|refine Ji ?_|refine Jl ?_|refine Jt ?_|refine Jb ?_ ?_|refine Jo ?_|(apply dAq;rfl;rfl;rfl;rfl;rfl;rfl;(first|assumption|solve_by_elim))|(apply dAp;rfl;rfl;rfl;rfl;rfl;(first|assumption|solve_by_elim);rfl)|(apply dSl;rfl;rfl;rfl;rfl;rfl;rfl;assumption;exact IsV.any _;rfl)|refine JD ?_|(apply dLn;rfl;rfl;rfl;rfl;rfl)|(apply dT (ty:=4);rfl;rfl;rfl;rfl)|(apply dF (ty:=4);rfl;rfl;rfl;rfl)|(apply dB (ty:=4);rfl;rfl;rfl;rfl)|refine Jh ?_|(apply Wp.draw tOk follows;kernel_rfl)|intro hb
 refine ZlF rfl rfl rfl rfl rfl hap ?_
 repeat' first|refine JA ?_|refine JS ?_|refine Ji ?_|refine Jl ?_|refine Jt ?_|refine Jb ?_ ?_|refine Jo ?_|(apply dAq;rfl;rfl;rfl;rfl;rfl;rfl;(first|assumption|solve_by_elim))|(apply dAp;rfl;rfl;rfl;rfl;rfl;(first|assumption|solve_by_elim);rfl)|(apply dSl;rfl;rfl;rfl;rfl;rfl;rfl;assumption;exact IsV.any _;rfl)|refine JD ?_|(apply dLn;rfl;rfl;rfl;rfl;rfl)|(apply dT (ty:=4);rfl;rfl;rfl;rfl)|(apply dF (ty:=4);rfl;rfl;rfl;rfl)|(apply dB (ty:=4);rfl;rfl;rfl;rfl)|refine Jh ?_|(apply Wp.draw tOk follows;kernel_rfl)|intro hb
 all_goals exact RetE.ret rfl rfl rfl
theorem Zmo (P:Box) (hl:M.length≤1000):CallOk E0 Tryz.prog 185 [.own 0 5 0 M.length,.int .i64 (M.length:Int),.own 2 5 0 1] ⟨[.cells 5 (pwL M),P,.cells 5 [pwC y]],0,[],0⟩ (.own 3 5 0 (M.length+1)) ⟨[.dead,P,.cells 5 [pwC y],.cells 5 (pwL (M++ [y]))],0,[],0⟩:=by
 have hsl:=Zly (id:=0) (k:=M.length) (n:=M.length) (Nat.le_refl _)
 have heq:=Uf (M.length:Int) (M.length:Int)
 rw [decide_eq_true rfl] at heq
 have hs:=Zdg (H:=⟨[.cells 5 (pwL M),P,.cells 5 [pwC y]],0,[],0⟩) (id:=0) (M:=M) rfl
 have he:=Znr (y:=y) (H:=⟨[.cells 5 (pwL M),P,.cells 5 [pwC y]],0,[],0⟩) (id:=2) rfl (s:= .own 0 5 0 M.length) rfl rfl
 have hap:ZO E0 106 106 (.own 0 5 0 M.length) (.own 2 5 0 1) ⟨[.cells 5 (pwL M),P,.cells 5 [pwC y]],0,[],0⟩=some (.own 3 5 0 (M.length+1),⟨[.dead,P,.cells 5 [pwC y],.cells 5 (pwL (M++ [y]))],0,[],0⟩):=by
  simp only [ZO,he,YQ,Vj,hs]
  rw [if_pos ⟨trivial,Nat.zero_le _,ZK M,ZX (by rw [ZK];simp;omega) (by decide)⟩,Zcp,ZK]
  rfl
 clear hs he
 generalize pwL M=L at hap ⊢
 generalize pwL (M++ [y])=L2 at hap ⊢
 generalize M.length+1=n1 at hap ⊢
 generalize M.length=n at hap hsl heq ⊢
 refine Yy (own:=fun d=>Nat.beq d 25) tOk fe185.ok ?_
 refine Wp.seq ?_
 repeat' first|refine JA ?_|refine JS ?_|refine Ji ?_|refine Jl ?_|refine Jt ?_|refine Jb ?_ ?_|refine Jo ?_|(apply dAq;rfl;rfl;rfl;rfl;rfl;rfl;(first|assumption|solve_by_elim))|(apply dAp;rfl;rfl;rfl;rfl;rfl;(first|assumption|solve_by_elim);rfl)|(apply dSl;rfl;rfl;rfl;rfl;rfl;rfl;assumption;exact IsV.any _;rfl)|refine JD ?_|(apply dLn;rfl;rfl;rfl;rfl;rfl)|(apply dT (ty:=4);rfl;rfl;rfl;rfl)|(apply dF (ty:=4);rfl;rfl;rfl;rfl)|(apply dB (ty:=4);rfl;rfl;rfl;rfl)|refine Jh ?_|(apply Wp.draw tOk follows;kernel_rfl)|intro hb
 refine ZlF rfl rfl rfl rfl rfl hap ?_
 repeat' first|refine JA ?_|refine JS ?_|refine Ji ?_|refine Jl ?_|refine Jt ?_|refine Jb ?_ ?_|refine Jo ?_|(apply dAq;rfl;rfl;rfl;rfl;rfl;rfl;(first|assumption|solve_by_elim))|(apply dAp;rfl;rfl;rfl;rfl;rfl;(first|assumption|solve_by_elim);rfl)|(apply dSl;rfl;rfl;rfl;rfl;rfl;rfl;assumption;exact IsV.any _;rfl)|refine JD ?_|(apply dLn;rfl;rfl;rfl;rfl;rfl)|(apply dT (ty:=4);rfl;rfl;rfl;rfl)|(apply dF (ty:=4);rfl;rfl;rfl;rfl)|(apply dB (ty:=4);rfl;rfl;rfl;rfl)|refine Jh ?_|(apply Wp.draw tOk follows;kernel_rfl)|intro hb
 all_goals exact RetE.ret rfl rfl rfl
theorem Zm2 (P:Box) (hi:i<M.length) (hl:M.length≤1000):CallOk E0 Tryz.prog 185 [.own 0 5 0 M.length,.int .i64 (i:Int),.own 2 5 0 1] ⟨[.cells 5 (pwL M),P,.cells 5 [pwC y]],0,[],0⟩ (.own 3 5 0 (M.length+1)) ⟨[.dead,P,.cells 5 [pwC y],.cells 5 (pwL (M.take i++ [y]++M.drop i))],0,[],0⟩:=by
 have h:=Zi6 (H:=⟨[.cells 5 (pwL M),P,.cells 5 [pwC y]],0,[],0⟩) (id:=0) (id2:=2) (n:=M.length) (i:=i) (el:=pwL M) (y:=pwC y) rfl rfl (Nat.zero_le _) (by decide) (ZK M) hi hl (Qa M) (ZkA y)
 have e:WS (pwL M) i (pwC y)=pwL (M.take i++ [y]++M.drop i):=by
  simp only [WS,pwL,List.map_append,List.map_take,List.map_drop,List.map_cons,List.map_nil]
 rw [e] at h
 exact h
theorem Zil (t:Tm) (n:Int):Qd E3 146 [(0,.agg t.cells),(1,.int .i64 n)]=some (.agg (pwC (t,n))):=by
 obtain ⟨k,nm,s,b,kz⟩:=t
 rfl
theorem ZoR (y:Pw):∃ a c d e f,pwC y= [a,c,d,e,f]:=by
 obtain ⟨⟨k,nm,s,b,kz⟩,n⟩:=y
 exact ⟨_,_,_,_,_,rfl⟩
def ZiZ (l:List Pw) (r:PV) (H:Heap):Prop:=Out 5 H r (pwL l)
theorem Vz {j n:Nat} (hn:n=l.length) (h:H.bx[j]? = some (.cells 5 (pwL l))):ZiZ l (.own j 5 0 n) H:=by
 have:=Out.own (es:=5) (H1:=H) j (pwL l) [] (by rw [List.append_nil];exact h) (Y0 l)
 rw [ZK, ← hn] at this
 exact this
theorem Zlz (hP : PlaceE l t i) (hf : ∀ x, l[i]? = some x → x.1.cmp t ≠ 0) (ht : t.Ok ∧ t.size ≤ 100000) (hlen : l.length ≤ 1000) (hM : Mut0 5 v0 L (pwL l))
  (hB:CallOk E0 Tryz.prog 183 [v0,.agg t.cells,.fn 184 []] ⟨L++ [.cells 5 [pwC (t,n)]],0,[],0⟩ (.tup [.int .i64 (i:Int),.bool false]) ⟨L++ [.cells 5 [pwC (t,n)]],0,[],0⟩) :
  ∃ r H1,CallOk E3 Tryz.prog 155 [v0,.agg (pwC (t,n))] ⟨L,0,[],0⟩ r H1∧ZiZ (Wh l t n) r H1:=by
 have hcl:=fun H=>Zkz (ZlY ht.1 ht.2 H)
 obtain ⟨y,hy⟩:∃ y:Pw,y=(t,n):=⟨_,rfl⟩
 have hbd:=Zil t n
 rw [← hy] at hbd
 obtain ⟨a,c,d,e,f,hce⟩:=ZoR y
 rw [Zd6 hP hf]
 have hB:=Zkz hB
 rcases Xr hM with ⟨rfl,rfl,h⟩|⟨rfl,rfl⟩
 · obtain rfl := ZaC h
   obtain rfl:i=0:=by have:=hP.le;simpa using this
   have k3:=Zkz (ZlU (.cells 5 [pwC (t,n)]) (y:=y))
   have hfin:ZiZ ([].take 0++ [(t,n)]++ [].drop 0) (.own 2 5 0 1) ⟨[.cells 5 [pwC (t,n)],.cells 5 [pwC y],.cells 5 [pwC y]],0,[],0⟩:=Vz rfl (by rw [hy];rfl)
   rw [hce] at hbd k3 hfin
   clear hce hy
   generalize ([].take 0++ [(t,n)]++ [].drop 0:List Pw)=R at hfin ⊢
   obtain ⟨k,nm,s,b,kz⟩:=t
   simp only [pwC,Tm.cells,List.cons_append,List.nil_append] at hcl hbd hB k3 hfin ⊢
   refine ZW (own:=fun d=>Nat.beq d 24) ZhH fe155.ok ?_
   refine Wp.seq ?_
   repeat' first|(apply qCl;rfl;rfl;rfl;rfl;first|exact hB|exact hcl _|exact k3)|refine Js ?_|refine Ji ?_|(apply qBd;rfl;rfl;rfl;assumption;exact IsV.aggN)|refine JJ ?_|refine Jx ?_|refine Jt ?_|refine Jb ?_ ?_|refine Jo ?_|(apply dCl;rfl;rfl;rfl;rfl;rfl;first|exact hB|exact hcl _|exact k3)|refine JB ?_|refine JD ?_|(apply dBd;rfl;rfl;rfl;assumption;exact IsV.aggN;rfl)|refine JK ?_|refine JI ?_|(apply dT (ty:=4);rfl;rfl;rfl;rfl)|(apply dF (ty:=4);rfl;rfl;rfl;rfl)|(apply dB (ty:=4);rfl;rfl;rfl;rfl)|refine Jh ?_|(apply Wp.drawS ZhH follows;kernel_rfl;rfl)|intro hb
   refine ZmJ rfl rfl rfl rfl ?_
   refine dCe rfl rfl rfl rfl rfl k3 (Nat.le_of_ble_eq_true rfl) ?_
   repeat' first|refine Js ?_|refine Ji ?_|(apply qBd;rfl;rfl;rfl;assumption;exact IsV.aggN)|refine JJ ?_|refine Jx ?_|refine Jt ?_|refine Jb ?_ ?_|refine Jo ?_|refine JB ?_|refine JD ?_|(apply dBd;rfl;rfl;rfl;assumption;exact IsV.aggN;rfl)|refine JK ?_|refine JI ?_|(apply dT (ty:=4);rfl;rfl;rfl;rfl)|(apply dF (ty:=4);rfl;rfl;rfl;rfl)|(apply dB (ty:=4);rfl;rfl;rfl;rfl)|refine Jh ?_|(apply Wp.drawS ZhH follows;kernel_rfl;rfl)|intro hb
   all_goals exact RetR.ret rfl hfin
 · rw [ZK] at hB ⊢
   by_cases hil:i<l.length
   · have k3 := Zkz (Zm2 (.cells 5 [pwC (t, n)]) hil hlen (y := y))
     have hfin:ZiZ (l.take i++ [(t,n)]++l.drop i) (.own 3 5 0 (l.length+1)) ⟨[.dead,.cells 5 [pwC (t,n)],.cells 5 [pwC y],.cells 5 (pwL (l.take i++ [y]++l.drop i))],0,[],0⟩:=Vz (by simp only [List.length_append,List.length_take,List.length_drop,List.length_singleton];omega) (by rw [hy];rfl)
     have hR:l.take i++ [y]++l.drop i=l.take i++ [(t,n)]++l.drop i:=by rw [hy]
     rw [hR] at k3 hfin
     rw [hce] at hbd k3 hfin
     clear hce hy hR
     generalize l.take i++ [(t,n)]++l.drop i=R at hfin k3 ⊢
     generalize pwL l=PL at hB k3 ⊢
     generalize l.length=ln at hB k3 hfin ⊢
     obtain ⟨k,nm,s,b,kz⟩:=t
     simp only [pwC,Tm.cells,List.cons_append,List.nil_append] at hcl hbd hB k3 hfin ⊢
     refine ZW (own:=fun d=>Nat.beq d 24) ZhH fe155.ok ?_
     refine Wp.seq ?_
     repeat' first|(apply qCl;rfl;rfl;rfl;rfl;first|exact hB|exact hcl _|exact k3)|refine Js ?_|refine Ji ?_|(apply qBd;rfl;rfl;rfl;assumption;exact IsV.aggN)|refine JJ ?_|refine Jx ?_|refine Jt ?_|refine Jb ?_ ?_|refine Jo ?_|(apply dCl;rfl;rfl;rfl;rfl;rfl;first|exact hB|exact hcl _|exact k3)|refine JB ?_|refine JD ?_|(apply dBd;rfl;rfl;rfl;assumption;exact IsV.aggN;rfl)|refine JK ?_|refine JI ?_|(apply dT (ty:=4);rfl;rfl;rfl;rfl)|(apply dF (ty:=4);rfl;rfl;rfl;rfl)|(apply dB (ty:=4);rfl;rfl;rfl;rfl)|refine Jh ?_|(apply Wp.drawS ZhH follows;kernel_rfl;rfl)|intro hb
     refine ZmJ rfl rfl rfl rfl ?_
     refine dCe rfl rfl rfl rfl rfl k3 (Nat.le_of_ble_eq_true rfl) ?_
     repeat' first|refine Js ?_|refine Ji ?_|(apply qBd;rfl;rfl;rfl;assumption;exact IsV.aggN)|refine JJ ?_|refine Jx ?_|refine Jt ?_|refine Jb ?_ ?_|refine Jo ?_|refine JB ?_|refine JD ?_|(apply dBd;rfl;rfl;rfl;assumption;exact IsV.aggN;rfl)|refine JK ?_|refine JI ?_|(apply dT (ty:=4);rfl;rfl;rfl;rfl)|(apply dF (ty:=4);rfl;rfl;rfl;rfl)|(apply dB (ty:=4);rfl;rfl;rfl;rfl)|refine Jh ?_|(apply Wp.drawS ZhH follows;kernel_rfl;rfl)|intro hb
     all_goals exact RetR.ret rfl hfin
   · have hin : i = l.length := by have := hP.le; omega
     have hR:l.take i++ [(t,n)]++l.drop i=l++ [(t,n)]:=by rw [hin,List.take_length,List.drop_length,List.append_nil]
     rw [hR]
     rw [hin] at hB
     have k3:=Zkz (Zmo (.cells 5 [pwC (t,n)]) hlen (y:=y))
     have hfin:ZiZ (l++ [(t,n)]) (.own 3 5 0 (l.length+1)) ⟨[.dead,.cells 5 [pwC (t,n)],.cells 5 [pwC y],.cells 5 (pwL (l++ [y]))],0,[],0⟩:=Vz (by simp) (by rw [hy];rfl)
     have hR2:l++ [y]=l++ [(t,n)]:=by rw [hy]
     rw [hR2] at k3 hfin
     rw [hce] at hbd k3 hfin
     clear hce hy hR hR2
     generalize l++ [(t,n)]=R at hfin k3 ⊢
     generalize pwL l=PL at hB k3 ⊢
     generalize l.length=ln at hB k3 hfin ⊢
     obtain ⟨k,nm,s,b,kz⟩:=t
     simp only [pwC,Tm.cells,List.cons_append,List.nil_append] at hcl hbd hB k3 hfin ⊢
     refine ZW (own:=fun d=>Nat.beq d 24) ZhH fe155.ok ?_
     refine Wp.seq ?_
     repeat' first|(apply qCl;rfl;rfl;rfl;rfl;first|exact hB|exact hcl _|exact k3)|refine Js ?_|refine Ji ?_|(apply qBd;rfl;rfl;rfl;assumption;exact IsV.aggN)|refine JJ ?_|refine Jx ?_|refine Jt ?_|refine Jb ?_ ?_|refine Jo ?_|(apply dCl;rfl;rfl;rfl;rfl;rfl;first|exact hB|exact hcl _|exact k3)|refine JB ?_|refine JD ?_|(apply dBd;rfl;rfl;rfl;assumption;exact IsV.aggN;rfl)|refine JK ?_|refine JI ?_|(apply dT (ty:=4);rfl;rfl;rfl;rfl)|(apply dF (ty:=4);rfl;rfl;rfl;rfl)|(apply dB (ty:=4);rfl;rfl;rfl;rfl)|refine Jh ?_|(apply Wp.drawS ZhH follows;kernel_rfl;rfl)|intro hb
     refine ZmJ rfl rfl rfl rfl ?_
     refine dCe rfl rfl rfl rfl rfl k3 (Nat.le_of_ble_eq_true rfl) ?_
     repeat' first|refine Js ?_|refine Ji ?_|(apply qBd;rfl;rfl;rfl;assumption;exact IsV.aggN)|refine JJ ?_|refine Jx ?_|refine Jt ?_|refine Jb ?_ ?_|refine Jo ?_|refine JB ?_|refine JD ?_|(apply dBd;rfl;rfl;rfl;assumption;exact IsV.aggN;rfl)|refine JK ?_|refine JI ?_|(apply dT (ty:=4);rfl;rfl;rfl;rfl)|(apply dF (ty:=4);rfl;rfl;rfl;rfl)|(apply dB (ty:=4);rfl;rfl;rfl;rfl)|refine Jh ?_|(apply Wp.drawS ZhH follows;kernel_rfl;rfl)|intro hb
     all_goals exact RetR.ret rfl hfin
theorem Zj0 (l:List Pw) (i:Nat) (y:Pw):(pwL l).set i (pwC y)=pwL (l.set i y):=by simp only [pwL,List.map_set]
theorem ZiJ (h:l[i]? = some x):nth (pwL l) i=some (pwC x):=(Zn _ _).trans (YY h)
theorem ZiW (hb:nth H.bx 0=some (.cells 5 (pwL l))) (h:l[i]? = some x):YB E0 3 (.ptr 0 5 (0+i) 4) H=some (.int .i64 x.2):=by
 rw [Nat.zero_add]
 exact Zec (ti:=⟨.int .i64,1,8,.int .i64 0⟩) rfl rfl hb (ZiJ h) (by
  obtain ⟨⟨k,nm,s,b,kz⟩,m⟩:=x
  rfl)
theorem ZkD (h:l[i]? = some x) (m:Int) (B:Box):Heap.wr ⟨[.cells 5 (pwL l),B],0,[],0⟩ (.ptr 0 5 (0+i) 4) [.int .i64 m]=some ⟨[.cells 5 (pwL (l.set i (x.1,m))),B],0,[],0⟩:=by
 rw [Nat.zero_add,ZbX (H:=⟨[.cells 5 (pwL l),B],0,[],0⟩) rfl (ZiJ h) (by rw [ZcH];exact Nat.le_refl 5) (Nat.zero_le _)]
 have e:(pwC x).take 4++([PV.int .i64 m]++(pwC x).drop (4+ [PV.int .i64 m].length))=pwC (x.1,m):=by
  obtain ⟨⟨k,nm,s,b,kz⟩,xn⟩:=x
  rfl
 rw [e,Zj0]
 rfl
theorem Zig (hP : PlaceE l t i) (hx : l[i]? = some x) (h00 : x.1.cmp t = 0) (hxb : -1000000 ≤ x.2 ∧ x.2 ≤ 1000000) (hn : -1000000 ≤ n ∧ n ≤ 1000000) (hlen : l.length ≤ 1000)
  (hB:CallOk E0 Tryz.prog 183 [.own 0 5 0 l.length,.agg t.cells,.fn 184 []] ⟨[.cells 5 (pwL l),.cells 5 [pwC (t,n)]],0,[],0⟩ (.tup [.int .i64 (i:Int),.bool true]) ⟨[.cells 5 (pwL l),.cells 5 [pwC (t,n)]],0,[],0⟩) :
  ∃ r H1,CallOk E0 Tryz.prog 155 [.own 0 5 0 l.length,.agg (pwC (t,n))] ⟨[.cells 5 (pwL l)],0,[],0⟩ r H1∧ZiZ (Wh l t n) r H1:=by
 rw [QZ hP hx h00]
 have hil:=Zu hx
 have hia:=Zhn (id:=0) (ix:=0) hil
 have hld1:=ZiW (H:=⟨[.cells 5 (pwL l),.cells 5 [pwC (t,n)]],0,[],0⟩) rfl hx
 have hadd:=ZhC (a:=x.2) (b:=n) (by omega) (by omega)
 have hwr:=ZkD hx (x.2+n) (.cells 5 [pwC (t,n)])
 have hx2:(l.set i (x.1,x.2+n))[i]? = some (x.1,x.2+n):=by rw [List.getElem?_set_self hil]
 have hld2:=ZiW (H:=⟨[.cells 5 (pwL (l.set i (x.1,x.2+n))),.cells 5 [pwC (t,n)]],0,[],0⟩) rfl hx2
 have heq:=Uf (x.2+n) 0
 have hi1:Xs E0 .add 3 (.int .i64 (i:Int)) (.int .i64 1)=some (.int .i64 ((i+1:Nat):Int)):=by
  rw [ZhC (by omega) (by omega)]
  congr 2
 have hl2:(l.set i (x.1,x.2+n)).length=l.length:=List.length_set
 have hdel:=Zjg (H:=⟨[.cells 5 (pwL (l.set i (x.1,x.2+n))),.cells 5 [pwC (t,n)]],0,[],0⟩) (id:=0) (n:=l.length) (i:=i) (el:=pwL (l.set i (x.1,x.2+n))) rfl (Nat.zero_le _) (by rw [ZK,hl2]) hil hlen (Qa _)
 have he:(pwL (l.set i (x.1,x.2+n))).take i++(pwL (l.set i (x.1,x.2+n))).drop (i+1)=pwL (l.take i++l.drop (i+1)):=by
  simp only [pwL,List.map_append,List.map_take,List.map_drop,List.map_set]
  rw [List.take_set_of_le (Nat.le_refl _),List.drop_set_of_lt (by omega)]
 rw [he] at hdel
 have hfin1:ZiZ (l.take i++l.drop (i+1)) (.own 0 5 0 (l.length-1)) ⟨[.cells 5 (pwL (l.take i++l.drop (i+1))),.cells 5 [pwC (t,n)]],0,[],0⟩:=Vz (by simp only [List.length_append,List.length_take,List.length_drop];omega) rfl
 have hfin2:ZiZ (l.set i (x.1,x.2+n)) (.own 0 5 0 l.length) ⟨[.cells 5 (pwL (l.set i (x.1,x.2+n))),.cells 5 [pwC (t,n)]],0,[],0⟩:=Vz hl2.symm rfl
 have hdel:CallOk E0 Tryz.prog 186 [.own 0 5 0 l.length,.int .i64 (i:Int),.int .i64 ((i+1:Nat):Int)] ⟨[.cells 5 (pwL (l.set i (x.1,x.2+n))),.cells 5 [pwC (t,n)]],0,[],0⟩ (.own 0 5 0 (l.length-1)) ⟨[.cells 5 (pwL (l.take i++l.drop (i+1))),.cells 5 [pwC (t,n)]],0,[],0⟩:=hdel
 by_cases hz:x.2+n=0
 · rw [if_pos hz]
   rw [decide_eq_true hz] at heq
   generalize l.take i++l.drop (i+1)=R at hdel hfin1 ⊢
   generalize l.set i (x.1,x.2+n)=S at hwr hld2 hdel
   clear hx2 hfin2 he hl2
   generalize x.2+n=m at hadd hwr hld2 heq
   obtain ⟨k,nm,s,b,kz⟩:=t
   simp only [pwC,Tm.cells,List.cons_append,List.nil_append] at hB hld1 hwr hld2 hdel hfin1 ⊢
   refine ZW (own:=fun _=>false) tOk fe155.ok ?_
   refine Wp.seq ?_
   repeat' first|refine Jc hB ?_|refine Jc hdel ?_|refine Js ?_|refine Ji ?_|refine JJ ?_|(apply qLd;rfl;rfl;rfl;assumption;exact IsV.any _)|refine Jx ?_|refine Jt ?_|refine Jb ?_ ?_|refine Jo ?_|refine Jd hB ?_|refine Jd hdel ?_|refine JB ?_|refine JD ?_|refine JK ?_|(apply dLd;rfl;rfl;rfl;assumption;exact IsV.any _;(first|rfl|(show Nat.blt _ _=true;first|assumption|(simp [Nat.blt];done))))|refine JI ?_|(apply dT (ty:=4);rfl;rfl;rfl;rfl)|(apply dF (ty:=4);rfl;rfl;rfl;rfl)|(apply dB (ty:=4);rfl;rfl;rfl;rfl)|(apply dSt;rfl;rfl;rfl;rfl;exact IsL.n;rfl;(first|rfl|assumption|(simp only [List.all_cons,List.all_nil,ZD,Bool.and_true];rfl));assumption;exact IsH.mkN;assumption;assumption;rfl)|refine Jh ?_|(apply Wp.drawS tOk follows;kernel_rfl;rfl)|intro hb
   all_goals exact RetR.ret rfl hfin1
 · rw [if_neg hz]
   rw [decide_eq_false hz] at heq
   generalize l.set i (x.1,x.2+n)=S at hwr hld2 hfin2 ⊢
   clear hx2 hfin1 he hl2 hdel
   generalize x.2+n=m at hadd hwr hld2 heq
   obtain ⟨k,nm,s,b,kz⟩:=t
   simp only [pwC,Tm.cells,List.cons_append,List.nil_append] at hB hld1 hwr hld2 hfin2 ⊢
   refine ZW (own:=fun _=>false) tOk fe155.ok ?_
   refine Wp.seq ?_
   repeat' first|refine Jc hB ?_|refine Js ?_|refine Ji ?_|refine JJ ?_|(apply qLd;rfl;rfl;rfl;assumption;exact IsV.any _)|refine Jx ?_|refine Jt ?_|refine Jb ?_ ?_|refine Jo ?_|refine Jd hB ?_|refine JB ?_|refine JD ?_|refine JK ?_|(apply dLd;rfl;rfl;rfl;assumption;exact IsV.any _;(first|rfl|(show Nat.blt _ _=true;first|assumption|(simp [Nat.blt];done))))|refine JI ?_|(apply dT (ty:=4);rfl;rfl;rfl;rfl)|(apply dF (ty:=4);rfl;rfl;rfl;rfl)|(apply dB (ty:=4);rfl;rfl;rfl;rfl)|(apply dSt;rfl;rfl;rfl;rfl;exact IsL.n;rfl;(first|rfl|assumption|(simp only [List.all_cons,List.all_nil,ZD,Bool.and_true];rfl));assumption;exact IsH.mkN;assumption;assumption;rfl)|refine Jh ?_|(apply Wp.drawS tOk follows;kernel_rfl;rfl)|intro hb
   all_goals exact RetR.ret rfl hfin2
theorem Zpk (hA : W3 l) (hl : PwB 1000000 l) (ht : t.Ok ∧ t.size ≤ 100000) (hn : -1000000 ≤ n ∧ n ≤ 1000000) (hlen : l.length ≤ 1000) (hM : Mut0 5 v0 L (pwL l)) :
  ∃ r H1,CallOk E0 Tryz.prog 155 [v0,.agg (pwC (t,n))] ⟨L,0,[],0⟩ r H1∧Out 5 H1 r (pwL (Wh l t n)):=by
 obtain ⟨i,fd,hP,hiff,hB⟩:=Zon hA (fun x hx=>(hl x hx).1) ht hlen hM [.cells 5 [pwC (t,n)]]
 cases fd with
 | false =>
   obtain ⟨r,H1,h1,h2⟩:=Zlz hP (fun x hx h=>by have:=hiff.2 ⟨x,hx,h⟩;cases this) ht hlen hM hB
   exact ⟨r,H1,Zpp h1,h2⟩
 | true =>
   obtain ⟨x,hx,h00⟩:=hiff.1 rfl
   rcases Xr hM with ⟨rfl,rfl,h⟩|⟨rfl,rfl⟩
   · obtain rfl := ZaC h
     simp at hx
   · rw [ZK] at hB ⊢
     exact Zig hP hx h00 (hl x (List.mem_of_getElem? hx)).2 hn hlen hB
theorem ZgB (hA : W3 l) (hl : PwB 1000000 l) (ht : t.Ok ∧ t.size ≤ 100000) (hn : -1000000 ≤ n ∧ n ≤ 1000000) (hlen : l.length ≤ 1000) {v : PV} (hro : H.ro = 0) (hv : Mut 5 H.bx v (pwL l)) :
  ∃ v' B,CallOk E0 Tryz.prog 155 [v,.agg (pwC (t,n))] H v' {H with bx:=Wu v H.bx++ [B]}∧Mut 5 (Wu v H.bx++ [B]) v' (pwL (Wh l t n))∧(v'= .nils∨∃ m,v'= .own H.bx.length 5 0 m):=
 CallOk.mut hro hv (Y0 l) (by
  obtain ⟨k,nm,s,b,kz⟩:=t
  simp only [pwC,Tm.cells,List.cons_append,List.nil_append,ZP,frzG,Uq,Yq]
  rfl) fun v0 L hM=>Zpk hA hl ht hn hlen hM
