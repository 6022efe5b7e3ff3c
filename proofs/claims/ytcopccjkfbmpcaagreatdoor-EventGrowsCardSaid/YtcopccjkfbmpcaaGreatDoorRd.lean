/-
  Traces that bytes describe: the second text's function.
-/
import Derived.Test.YtcopccjkfbmpcaaGreatDoorRc
set_option maxHeartbeats 0
set_option maxRecDepth 100000
namespace Go.Vm.Seat
open Go.Proofs
theorem Zf1 (tl:Tail) (bb:List Nat) (q n:Nat):Zx [.sl tl 1 ((byC bb).drop q),.int .i64 (n:Int)]=some [slV false 1 (byC (bb.drop q)),.int .i64 (n:Int)]:=by
 simp only [Zx,Zk2,byC,List.map_drop]
 rfl
theorem c14 {l:List (Bool×List Nat)} (hl:l.length≤40) (hx:∀ x,x∈l→x.2.length≤12∧∀ y,y∈x.2→y<256) (b:Bool):∀ H,CallOk E0 Tryz.prog 14 [slV b 1 (dlC l)] H (slV true 6 (moC (Zbg l))) H:=by
 have hcl:=Zfh l
 refine ZH (own:=fun d=>[5096,5112,5115].any (Nat.beq d)) tOk fe14.ok (by simp only [Zx,Z5]) (ZK _ _ _ _ _) ?_
 refine Wp.seq ?_
 repeat' first|refine Jo ?_|fail
 refine Wp.while (fun m tm H => ∃ (i : Nat) (base : TM) (out : PV) (lv : List Nat) (nt : Nat), i + m = l.length ∧ ApV true 6 (moC (Zbg (l.take i))) out lv nt ∧
   tm=ovr base [(0,slV b 1 (dlC l)),(3,out),(4,.int .i64 (i:Int))]∧H=⟨[],0,lv,nt⟩)
  (fun m tm H hI=>Wp.drop ?_) l.length _ _ ⟨0,_,_,_,_,by omega,.nil _ _ rfl,Zf ⟨rfl,rfl,rfl,trivial⟩,rfl⟩
 obtain ⟨i,base,out,lv,nt,hi,hA,rfl,rfl⟩:=hI
 have hlx:=Zq (i:Int) ((dlC l).length:Int)
 by_cases hlt:i<l.length
 · obtain ⟨x, hxg⟩ : ∃ x, l[i]? = some x := ⟨l[i], by simp⟩
   have hxm:=hx x (List.mem_of_getElem? hxg)
   rw [decide_eq_true (by omega)] at hlx
   have hl4:=Zq (i:Int) 40
   rw [decide_eq_true (by omega)] at hl4
   have hj:=ZhZ hxg
   have hsn:=Zhr hxg
   obtain ⟨hLs,hLl⟩:=Zb7 (l.take i) [] (fun m hm=>by cases hm)
   have eL:(l.take i).foldl (fun o x=>Zew o x.2) []=Zbg (l.take i):=rfl
   rw [eL,List.length_nil,List.length_take] at hLl
   rw [eL] at hLs
   generalize Zbg (l.take i)=L at hA hsn hLs hLl
   obtain ⟨o1,lv1,nt1,k2,lv2,nt2,hap1,hap2,hA2⟩:=Zuy x.1 (x:=x.2) (by omega) hA
   have hF:=Zq3 (b:=x.2++ [0,0,0]) (by simp) (.tok k2)
   have hmo:mkB (x.2++ [0,0,0])=mkM (x.2++ [0,0,0]) ((x.2++ [0,0,0]).getD 0 0 % 7) ((x.2++ [0,0,0]).getD 1 0 % 4) ((x.2++ [0,0,0]).getD 2 0):=rfl
   have hTr:TrS (L++ [mkB (x.2++ [0,0,0])]):=⟨by simp;omega,fun m hm=>by
    rcases List.mem_append.1 hm with h|h
    · exact hLs m h
    · rw [List.mem_singleton.1 h];exact Znb _⟩
   have hby:∀ y,y∈x.2++ [0,0,0]→y<256:=fun y hy=>by
    rcases List.mem_append.1 hy with h|h
    · exact hxm.2 y h
    · simp at h;omega
   have hn4:(x.2++ [0,0,0]).getD 1 0 % 4<4:=Nat.mod_lt _ (by omega)
   have hK7:(x.2++ [0,0,0]).getD 0 0 % 7<7:=Nat.mod_lt _ (by omega)
   unfold Zew at hsn
   generalize mkB (x.2++ [0,0,0])=mo at hmo hsn hTr
   generalize x.2++ [0,0,0]=bb at *
   generalize bb.getD 1 0 % 4=n at *
   generalize bb.getD 0 0 % 7=K at *
   generalize bb.getD 0 0=b0 at *
   generalize bb.getD 1 0=b1 at *
   generalize bb.getD 2 0=c at *
   obtain ⟨i0,i1,i2,r1,r0,v1,v0,c2,c3,c4,w2,w3,w4,e3,s2,s3,l3⟩:=hF
   clear hxm hx hA eL
   have hK:K=6∨K=0∨K=1∨K=2∨K=3∨K=4∨K=5:=by omega
   rcases hK with rfl|rfl|rfl|rfl|rfl|rfl|rfl
   obtain rfl : mo = ⟨7, (n : Int), 0, true, [], 0, true, []⟩ := hmo
   obtain ⟨o3,lv3,nt3,o4,lv4,nt4,o5,lv5,nt5,hap3,hap4,hfz4,hap5,hA5,hA4⟩:=Zak hA2 (by omega) ⟨7,(n:Int),0,true,[],0,true,[]⟩
   have kV:=fun H=>Zs (c32 (l:=L++ [⟨7,(n:Int),0,true,[],0,true,[]⟩]) hTr false H) hfz4
   have q0:=Qp (Zz (L++ [⟨7,(n:Int),0,true,[],0,true,[]⟩])).2 0
   have hb:=(rfl:Z8 [[.int .i64 7,.int .i64 n,.int .i64 0,.nils,.int .i64 0,.nils]]=some [[.int .i64 7,.int .i64 n,.int .i64 0,.nils,.int .i64 0,.nils]])
   simp only [Mo.cells,Zp,List.map_nil,Za,Zg] at hap4 hap5
   generalize (Zz (L++ [⟨7,(n:Int),0,true,[],0,true,[]⟩])).2=e at kV q0 hsn
   rotate_left
   by_cases h3 : c % 3 = 0
   have ea : agF c = [[98], [97]] := if_pos h3
   rw [decide_eq_true h3] at e3
   obtain rfl:mo=⟨1,(n:Int),((c % 2:Nat):Int),true,[[98],[97]],0,true,[]⟩:=by rw [hmo, ← ea];rfl
   obtain ⟨o3,lv3,nt3,o4,lv4,nt4,o5,lv5,nt5,hap3,hap4,hfz4,hap5,hA5,hA4⟩:=Zak hA2 (by omega) ⟨1,(n:Int),((c % 2:Nat):Int),true,[[98],[97]],0,true,[]⟩
   have kV:=fun H=>Zs (c32 (l:=L++ [⟨1,(n:Int),((c % 2:Nat):Int),true,[[98],[97]],0,true,[]⟩]) hTr false H) hfz4
   have q0:=Qp (Zz (L++ [⟨1,(n:Int),((c % 2:Nat):Int),true,[[98],[97]],0,true,[]⟩])).2 0
   have hb:=(rfl:Z8 [[.int .i64 1,.int .i64 n,.int .i64 ((c % 2:Nat):Int),.sl .full 1 [[.str [98]],[.str [97]]],.int .i64 0,.nils]]=some [[.int .i64 1,.int .i64 n,.int .i64 ((c % 2:Nat):Int),.sl .none 1 [[.str [98]],[.str [97]]],.int .i64 0,.nils]])
   simp only [Mo.cells,Zp,List.map_nil,List.map_cons,Za,Zg,Zm] at hap4 hap5
   generalize (Zz (L++ [⟨1,(n:Int),((c % 2:Nat):Int),true,[[98],[97]],0,true,[]⟩])).2=e at kV q0 hsn
   rotate_left
   have ea : agF c = [[97], [98]] := if_neg h3
   rw [decide_eq_false h3] at e3
   obtain rfl:mo=⟨1,(n:Int),((c % 2:Nat):Int),true,[[97],[98]],0,true,[]⟩:=by rw [hmo, ← ea];rfl
   obtain ⟨o3,lv3,nt3,o4,lv4,nt4,o5,lv5,nt5,hap3,hap4,hfz4,hap5,hA5,hA4⟩:=Zak hA2 (by omega) ⟨1,(n:Int),((c % 2:Nat):Int),true,[[97],[98]],0,true,[]⟩
   have kV:=fun H=>Zs (c32 (l:=L++ [⟨1,(n:Int),((c % 2:Nat):Int),true,[[97],[98]],0,true,[]⟩]) hTr false H) hfz4
   have q0:=Qp (Zz (L++ [⟨1,(n:Int),((c % 2:Nat):Int),true,[[97],[98]],0,true,[]⟩])).2 0
   have hb:=(rfl:Z8 [[.int .i64 1,.int .i64 n,.int .i64 ((c % 2:Nat):Int),.sl .full 1 [[.str [97]],[.str [98]]],.int .i64 0,.nils]]=some [[.int .i64 1,.int .i64 n,.int .i64 ((c % 2:Nat):Int),.sl .none 1 [[.str [97]],[.str [98]]],.int .i64 0,.nils]])
   simp only [Mo.cells,Zp,List.map_nil,List.map_cons,Za,Zg,Zm] at hap4 hap5
   generalize (Zz (L++ [⟨1,(n:Int),((c % 2:Nat):Int),true,[[97],[98]],0,true,[]⟩])).2=e at kV q0 hsn
   rotate_left
   obtain rfl : mo = ⟨2, (n : Int), 0, true, [], 0, true, [VZ (bb.drop 2) n]⟩ := hmo
   have kM:=fun H=>Zs (c39 (b:=bb.drop 2) (fun y hy=>hby y (List.mem_of_mem_drop hy)) false hn4 H) (Zf1 (.tok k2) bb 2 n)
   generalize VZ (bb.drop 2) n=U at *
   obtain ⟨k1,n1,s1,f1,l1⟩:=U
   simp only [Tm.cells] at kM
   obtain ⟨o3,lv3,nt3,o4,lv4,nt4,o5,lv5,nt5,hap3,hap4,hfz4,hap5,hA5,hA4⟩:=Zak hA2 (by omega) ⟨2,(n:Int),0,true,[],0,true,[.mk k1 n1 s1 f1 l1]⟩
   have kV:=fun H=>Zs (c32 (l:=L++ [⟨2,(n:Int),0,true,[],0,true,[.mk k1 n1 s1 f1 l1]⟩]) hTr false H) hfz4
   have q0:=Qp (Zz (L++ [⟨2,(n:Int),0,true,[],0,true,[.mk k1 n1 s1 f1 l1]⟩])).2 0
   have hb:=(rfl:Z8 [[.int .i64 2,.int .i64 n,.int .i64 0,.nils,.int .i64 0,.sl .full 4 [[.int .i64 k1,.str n1,.int .i64 s1,slV f1 4 (Za l1)]]]]=some [[.int .i64 2,.int .i64 n,.int .i64 0,.nils,.int .i64 0,.sl .none 4 [[.int .i64 k1,.str n1,.int .i64 s1,slV f1 4 (Za l1)]]]])
   simp only [Mo.cells,Tm.cells,Zp,List.map_nil,Za,Zg,Zm] at hap4 hap5
   generalize (Zz (L++ [⟨2,(n:Int),0,true,[],0,true,[.mk k1 n1 s1 f1 l1]⟩])).2=e at kV q0 hsn
   rotate_left
   obtain rfl : mo = ⟨3, (n : Int), 0, true, [], 0, true, [VZ (bb.drop 2) n]⟩ := hmo
   have kM:=fun H=>Zs (c39 (b:=bb.drop 2) (fun y hy=>hby y (List.mem_of_mem_drop hy)) false hn4 H) (Zf1 (.tok k2) bb 2 n)
   generalize VZ (bb.drop 2) n=U at *
   obtain ⟨k1,n1,s1,f1,l1⟩:=U
   simp only [Tm.cells] at kM
   obtain ⟨o3,lv3,nt3,o4,lv4,nt4,o5,lv5,nt5,hap3,hap4,hfz4,hap5,hA5,hA4⟩:=Zak hA2 (by omega) ⟨3,(n:Int),0,true,[],0,true,[.mk k1 n1 s1 f1 l1]⟩
   have kV:=fun H=>Zs (c32 (l:=L++ [⟨3,(n:Int),0,true,[],0,true,[.mk k1 n1 s1 f1 l1]⟩]) hTr false H) hfz4
   have q0:=Qp (Zz (L++ [⟨3,(n:Int),0,true,[],0,true,[.mk k1 n1 s1 f1 l1]⟩])).2 0
   have hb:=(rfl:Z8 [[.int .i64 3,.int .i64 n,.int .i64 0,.nils,.int .i64 0,.sl .full 4 [[.int .i64 k1,.str n1,.int .i64 s1,slV f1 4 (Za l1)]]]]=some [[.int .i64 3,.int .i64 n,.int .i64 0,.nils,.int .i64 0,.sl .none 4 [[.int .i64 k1,.str n1,.int .i64 s1,slV f1 4 (Za l1)]]]])
   simp only [Mo.cells,Tm.cells,Zp,List.map_nil,Za,Zg,Zm] at hap4 hap5
   generalize (Zz (L++ [⟨3,(n:Int),0,true,[],0,true,[.mk k1 n1 s1 f1 l1]⟩])).2=e at kV q0 hsn
   rotate_left
   obtain rfl : mo = ⟨4, (n : Int), 0, true, [], ((c % 3 : Nat) : Int), true, XQ bb n (c % 4)⟩ := hmo
   have hc4:c % 4<4:=Nat.mod_lt _ (by omega)
   have hin:∀ k,k<c % 4→(∀ H,CallOk E0 Tryz.prog 39 [.sl (.tok k2) 1 ((byC bb).drop (2+k % 2)),.int .i64 (n:Int)] H (.agg (VZ (bb.drop (2+k % 2)) n).cells) H):=fun k _=>fun H=>
    Zs (c39 (b:=bb.drop (2+k % 2)) (fun y hy=>hby y (List.mem_of_mem_drop hy)) false hn4 H) (Zf1 (.tok k2) bb (2+k % 2) n)
   obtain ⟨C,hC⟩:∃ C,C=c % 4:=⟨_,rfl⟩
   rw [← hC] at c4 w4 hin hc4 hTr hsn
   focus repeat' first|refine Js ?_|refine JA ?_|refine Ji ?_|(apply qCv;rfl;rfl;rfl;assumption;exact IsV.any _)|refine JJ ?_|refine Jl ?_|refine Jx ?_|refine Jt ?_|refine Jo ?_|fail
   refine Wp.while (fun m2 tm H => ∃ (k : Nat) (base : TM) (tv : PV) (lv' : List Nat) (nt' : Nat), k + m2 = C ∧ ApV true 4 (Za (XQ bb n k)) tv lv' nt' ∧ ApV true 6 (moC L) out lv' nt' ∧ (Z3 out = none ∨ Z3 out ≠ Z3 tv) ∧
     tm=ovr base [(0,slV b 1 (dlC l)),(3,out),(4,.int .i64 (i:Int)),(5,.sl (.tok k2) 1 (byC bb)),(6,.int .i64 (n:Int)),(7,.ptr 0 6 0 0),(8,.int .i64 (k:Int))]∧H=⟨[.cells 6 [[.int .i64 4,.int .i64 (n:Int),.int .i64 0,.nils,.int .i64 ((c % 3:Nat):Int),tv]]],0,lv',nt'⟩)
    (fun m2 tm H hI=>?_) C _ _ ⟨0,_,_,_,_,by omega,.nil _ _ rfl,hA2,Zkj _ _ rfl,Zf ⟨rfl,rfl,rfl,rfl,rfl,rfl,rfl,trivial⟩,rfl⟩
   obtain ⟨k,base2,tv,lv',nt',hk,hT,hO,hne,rfl,rfl⟩:=hI
   have hlk:=Zq (k:Int) ((C:Nat):Int)
   by_cases hkc:k<C
   · rw [decide_eq_true (by omega)] at hlk
     have q2:=Zfw k 2 (by omega)
     have q3:Xo E0 .add 3 (.int .i64 2) (.int .i64 ((k % 2:Nat):Int))=some (.int .i64 ((2+k % 2:Nat):Int)):=ZdH 2 (k % 2) (by omega)
     have q4:=ZfT (.tok k2) (byC bb) (2+k % 2) (by omega)
     have q5:=ZdH k 1 (by omega)
     have kM:=hin k hkc
     have hsx:=Zeb bb n k
     obtain ⟨o6,lv6,nt6,hap6,hA6,hk6⟩:=hT.app Yh (.sl .full 4 [(VZ (bb.drop (2+k % 2)) n).cells]) (Zn [VZ (bb.drop (2+k % 2)) n]) (ZD (by simp only [Zb,W0,List.length_cons,List.length_nil];omega) (by decide)) (ZO [VZ (bb.drop (2+k % 2)) n])
     obtain ⟨hB6,ht6⟩:=hk6 _ _ _ _ hO hne
     have e6:Za (XQ bb n k)++ [(VZ (bb.drop (2+k % 2)) n).cells]=Za (XQ bb n (k+1)):=by rw [hsx,Zt];rfl
     rw [e6] at hA6
     obtain ⟨k6,rfl⟩:=WT hA6 fun e=>by
      have:=congrArg List.length e
      rw [Zb,W0] at this
      simp at this
     clear hTr hsn hin hLs hLl hby hxg hA2 hsx e6
     generalize VZ (bb.drop (2+k % 2)) n=U at kM hap6
     obtain ⟨k1,n1,s1,f1,l1⟩:=U
     simp only [Tm.cells] at kM hap6
     repeat' first|refine Ji ?_|(apply qCv;rfl;rfl;rfl;assumption;exact IsV.any _)|refine JJ ?_|refine Jo ?_|refine Jd (kM _) ?_|refine JB ?_|(apply dAq;rfl;rfl;rfl;rfl;rfl;rfl;(first|assumption|solve_by_elim))|(apply dSl;rfl;rfl;rfl;rfl;rfl;rfl;assumption;exact IsV.any _;rfl)|refine JD ?_|refine Jh ?_|(apply Wp.drawS tOk follows;kernel_rfl;rfl)|fail
     exact LoopI.go (m2-1) (by omega) ⟨k+1,_,_,lv6,nt6,by omega,hA6,hB6,ht6,Zf ⟨rfl,rfl,rfl,rfl,rfl,rfl,rfl,trivial⟩,rfl⟩
   have e : k = C := by omega
   subst e
   rw [decide_eq_false (by omega)] at hlk
   rcases QS hT with rfl|⟨kt,rfl⟩
   have hs : slV true 4 (Za (XQ bb n k)) = .nils := (Option.some.inj (hT.frzC 0 hNil)).symm
   obtain ⟨o3,lv3,nt3,o4,lv4,nt4,o5,lv5,nt5,hap3,hap4,hfz4,hap5,hA5,hA4⟩:=Zak hO (by omega) ⟨4,(n:Int),0,true,[],((c % 3:Nat):Int),true,XQ bb n k⟩
   have kV:=fun H=>Zs (c32 (l:=L++ [⟨4,(n:Int),0,true,[],((c % 3:Nat):Int),true,XQ bb n k⟩]) hTr false H) hfz4
   have q0:=Qp (Zz (L++ [⟨4,(n:Int),0,true,[],((c % 3:Nat):Int),true,XQ bb n k⟩])).2 0
   have hb:=(rfl:Z8 [[.int .i64 4,.int .i64 n,.int .i64 0,.nils,.int .i64 ((c % 3:Nat):Int),.nils]]=some [[.int .i64 4,.int .i64 n,.int .i64 0,.nils,.int .i64 ((c % 3:Nat):Int),.nils]])
   simp only [Mo.cells,Zp,List.map_nil,Zg,hs] at hap4 hap5
   generalize (Zz (L++ [⟨4,(n:Int),0,true,[],((c % 3:Nat):Int),true,XQ bb n k⟩])).2=e at kV q0 hsn
   rotate_left
   have hs : slV true 4 (Za (XQ bb n k)) = .sl .none 4 (Za (XQ bb n k)) := (Option.some.inj (hT.frzC 0 hNil)).symm
   obtain ⟨o3,lv3,nt3,o4,lv4,nt4,o5,lv5,nt5,hap3,hap4,hfz4,hap5,hA5,hA4⟩:=Zak hO (by omega) ⟨4,(n:Int),0,true,[],((c % 3:Nat):Int),true,XQ bb n k⟩
   have kV:=fun H=>Zs (c32 (l:=L++ [⟨4,(n:Int),0,true,[],((c % 3:Nat):Int),true,XQ bb n k⟩]) hTr false H) hfz4
   have q0:=Qp (Zz (L++ [⟨4,(n:Int),0,true,[],((c % 3:Nat):Int),true,XQ bb n k⟩])).2 0
   have hb:=(rfl:Z8 [[.int .i64 4,.int .i64 n,.int .i64 0,.nils,.int .i64 ((c % 3:Nat):Int),.sl (.tok kt) 4 (Za (XQ bb n k))]]=some [[.int .i64 4,.int .i64 n,.int .i64 0,.nils,.int .i64 ((c % 3:Nat):Int),.sl .none 4 (Za (XQ bb n k))]])
   simp only [Mo.cells,Zp,List.map_nil,Zg,hs] at hap4 hap5
   generalize (Zz (L++ [⟨4,(n:Int),0,true,[],((c % 3:Nat):Int),true,XQ bb n k⟩])).2=e at kV q0 hsn
   rotate_left
   obtain rfl : mo = ⟨5, (n : Int), 0, true, [], ((c % 3 : Nat) : Int), true, XQ bb n (c % 4)⟩ := hmo
   have hc4:c % 4<4:=Nat.mod_lt _ (by omega)
   have hin:∀ k,k<c % 4→(∀ H,CallOk E0 Tryz.prog 39 [.sl (.tok k2) 1 ((byC bb).drop (2+k % 2)),.int .i64 (n:Int)] H (.agg (VZ (bb.drop (2+k % 2)) n).cells) H):=fun k _=>fun H=>
    Zs (c39 (b:=bb.drop (2+k % 2)) (fun y hy=>hby y (List.mem_of_mem_drop hy)) false hn4 H) (Zf1 (.tok k2) bb (2+k % 2) n)
   obtain ⟨C,hC⟩:∃ C,C=c % 4:=⟨_,rfl⟩
   rw [← hC] at c4 w4 hin hc4 hTr hsn
   focus repeat' first|refine Js ?_|refine JA ?_|refine Ji ?_|(apply qCv;rfl;rfl;rfl;assumption;exact IsV.any _)|refine JJ ?_|refine Jl ?_|refine Jx ?_|refine Jt ?_|refine Jo ?_|fail
   refine Wp.while (fun m2 tm H => ∃ (k : Nat) (base : TM) (tv : PV) (lv' : List Nat) (nt' : Nat), k + m2 = C ∧ ApV true 4 (Za (XQ bb n k)) tv lv' nt' ∧ ApV true 6 (moC L) out lv' nt' ∧ (Z3 out = none ∨ Z3 out ≠ Z3 tv) ∧
     tm=ovr base [(0,slV b 1 (dlC l)),(3,out),(4,.int .i64 (i:Int)),(5,.sl (.tok k2) 1 (byC bb)),(6,.int .i64 (n:Int)),(7,.ptr 0 6 0 0),(8,.int .i64 (k:Int))]∧H=⟨[.cells 6 [[.int .i64 5,.int .i64 (n:Int),.int .i64 0,.nils,.int .i64 ((c % 3:Nat):Int),tv]]],0,lv',nt'⟩)
    (fun m2 tm H hI=>?_) C _ _ ⟨0,_,_,_,_,by omega,.nil _ _ rfl,hA2,Zkj _ _ rfl,Zf ⟨rfl,rfl,rfl,rfl,rfl,rfl,rfl,trivial⟩,rfl⟩
   obtain ⟨k,base2,tv,lv',nt',hk,hT,hO,hne,rfl,rfl⟩:=hI
   have hlk:=Zq (k:Int) ((C:Nat):Int)
   by_cases hkc:k<C
   · rw [decide_eq_true (by omega)] at hlk
     have q2:=Zfw k 2 (by omega)
     have q3:Xo E0 .add 3 (.int .i64 2) (.int .i64 ((k % 2:Nat):Int))=some (.int .i64 ((2+k % 2:Nat):Int)):=ZdH 2 (k % 2) (by omega)
     have q4:=ZfT (.tok k2) (byC bb) (2+k % 2) (by omega)
     have q5:=ZdH k 1 (by omega)
     have kM:=hin k hkc
     have hsx:=Zeb bb n k
     obtain ⟨o6,lv6,nt6,hap6,hA6,hk6⟩:=hT.app Yh (.sl .full 4 [(VZ (bb.drop (2+k % 2)) n).cells]) (Zn [VZ (bb.drop (2+k % 2)) n]) (ZD (by simp only [Zb,W0,List.length_cons,List.length_nil];omega) (by decide)) (ZO [VZ (bb.drop (2+k % 2)) n])
     obtain ⟨hB6,ht6⟩:=hk6 _ _ _ _ hO hne
     have e6:Za (XQ bb n k)++ [(VZ (bb.drop (2+k % 2)) n).cells]=Za (XQ bb n (k+1)):=by rw [hsx,Zt];rfl
     rw [e6] at hA6
     obtain ⟨k6,rfl⟩:=WT hA6 fun e=>by
      have:=congrArg List.length e
      rw [Zb,W0] at this
      simp at this
     clear hTr hsn hin hLs hLl hby hxg hA2 hsx e6
     generalize VZ (bb.drop (2+k % 2)) n=U at kM hap6
     obtain ⟨k1,n1,s1,f1,l1⟩:=U
     simp only [Tm.cells] at kM hap6
     repeat' first|refine Ji ?_|(apply qCv;rfl;rfl;rfl;assumption;exact IsV.any _)|refine JJ ?_|refine Jo ?_|refine Jd (kM _) ?_|refine JB ?_|(apply dAq;rfl;rfl;rfl;rfl;rfl;rfl;(first|assumption|solve_by_elim))|(apply dSl;rfl;rfl;rfl;rfl;rfl;rfl;assumption;exact IsV.any _;rfl)|refine JD ?_|refine Jh ?_|(apply Wp.drawS tOk follows;kernel_rfl;rfl)|fail
     exact LoopI.go (m2-1) (by omega) ⟨k+1,_,_,lv6,nt6,by omega,hA6,hB6,ht6,Zf ⟨rfl,rfl,rfl,rfl,rfl,rfl,rfl,trivial⟩,rfl⟩
   have e : k = C := by omega
   subst e
   rw [decide_eq_false (by omega)] at hlk
   rcases QS hT with rfl|⟨kt,rfl⟩
   have hs : slV true 4 (Za (XQ bb n k)) = .nils := (Option.some.inj (hT.frzC 0 hNil)).symm
   obtain ⟨o3,lv3,nt3,o4,lv4,nt4,o5,lv5,nt5,hap3,hap4,hfz4,hap5,hA5,hA4⟩:=Zak hO (by omega) ⟨5,(n:Int),0,true,[],((c % 3:Nat):Int),true,XQ bb n k⟩
   have kV:=fun H=>Zs (c32 (l:=L++ [⟨5,(n:Int),0,true,[],((c % 3:Nat):Int),true,XQ bb n k⟩]) hTr false H) hfz4
   have q0:=Qp (Zz (L++ [⟨5,(n:Int),0,true,[],((c % 3:Nat):Int),true,XQ bb n k⟩])).2 0
   have hb:=(rfl:Z8 [[.int .i64 5,.int .i64 n,.int .i64 0,.nils,.int .i64 ((c % 3:Nat):Int),.nils]]=some [[.int .i64 5,.int .i64 n,.int .i64 0,.nils,.int .i64 ((c % 3:Nat):Int),.nils]])
   simp only [Mo.cells,Zp,List.map_nil,Zg,hs] at hap4 hap5
   generalize (Zz (L++ [⟨5,(n:Int),0,true,[],((c % 3:Nat):Int),true,XQ bb n k⟩])).2=e at kV q0 hsn
   rotate_left
   have hs : slV true 4 (Za (XQ bb n k)) = .sl .none 4 (Za (XQ bb n k)) := (Option.some.inj (hT.frzC 0 hNil)).symm
   obtain ⟨o3,lv3,nt3,o4,lv4,nt4,o5,lv5,nt5,hap3,hap4,hfz4,hap5,hA5,hA4⟩:=Zak hO (by omega) ⟨5,(n:Int),0,true,[],((c % 3:Nat):Int),true,XQ bb n k⟩
   have kV:=fun H=>Zs (c32 (l:=L++ [⟨5,(n:Int),0,true,[],((c % 3:Nat):Int),true,XQ bb n k⟩]) hTr false H) hfz4
   have q0:=Qp (Zz (L++ [⟨5,(n:Int),0,true,[],((c % 3:Nat):Int),true,XQ bb n k⟩])).2 0
   have hb:=(rfl:Z8 [[.int .i64 5,.int .i64 n,.int .i64 0,.nils,.int .i64 ((c % 3:Nat):Int),.sl (.tok kt) 4 (Za (XQ bb n k))]]=some [[.int .i64 5,.int .i64 n,.int .i64 0,.nils,.int .i64 ((c % 3:Nat):Int),.sl .none 4 (Za (XQ bb n k))]])
   simp only [Mo.cells,Zp,List.map_nil,Zg,hs] at hap4 hap5
   generalize (Zz (L++ [⟨5,(n:Int),0,true,[],((c % 3:Nat):Int),true,XQ bb n k⟩])).2=e at kV q0 hsn
   rotate_left
   have h2 : c % 2 = 0 ∨ c % 2 = 1 := by omega
   rcases h2 with h2|h2
   rw [h2] at c2
   obtain rfl:mo=⟨6,0,0,true,[[97]],0,true,[]⟩:=by rw [hmo];show Mo.mk _ _ _ _ [if c % 2=0 then _ else _] _ _ _=_;rw [if_pos h2]
   have ia:Zv E0 22 (.sl .full 1 [[.str [97]],[.str [98]]]) (.int .u8 ((0:Nat):Int))=some (.fptr [.str [97]] 0):=rfl
   obtain ⟨o3,lv3,nt3,o4,lv4,nt4,o5,lv5,nt5,hap3,hap4,hfz4,hap5,hA5,hA4⟩:=Zak hA2 (by omega) ⟨6,0,0,true,[[97]],0,true,[]⟩
   have kV:=fun H=>Zs (c32 (l:=L++ [⟨6,0,0,true,[[97]],0,true,[]⟩]) hTr false H) hfz4
   have q0:=Qp (Zz (L++ [⟨6,0,0,true,[[97]],0,true,[]⟩])).2 0
   have hb:=(rfl:Z8 [[.int .i64 6,.int .i64 0,.int .i64 0,.sl .full 1 [[.str [97]]],.int .i64 0,.nils]]=some [[.int .i64 6,.int .i64 0,.int .i64 0,.sl .none 1 [[.str [97]]],.int .i64 0,.nils]])
   simp only [Mo.cells,Zp,List.map_nil,List.map_cons,Za,Zg,Zm] at hap4 hap5
   generalize (Zz (L++ [⟨6,0,0,true,[[97]],0,true,[]⟩])).2=e at kV q0 hsn
   rotate_left
   rw [h2] at c2
   obtain rfl:mo=⟨6,0,0,true,[[98]],0,true,[]⟩:=by rw [hmo];show Mo.mk _ _ _ _ [if c % 2=0 then _ else _] _ _ _=_;rw [if_neg (by omega)]
   have ia:Zv E0 22 (.sl .full 1 [[.str [97]],[.str [98]]]) (.int .u8 ((1:Nat):Int))=some (.fptr [.str [98]] 0):=rfl
   obtain ⟨o3,lv3,nt3,o4,lv4,nt4,o5,lv5,nt5,hap3,hap4,hfz4,hap5,hA5,hA4⟩:=Zak hA2 (by omega) ⟨6,0,0,true,[[98]],0,true,[]⟩
   have kV:=fun H=>Zs (c32 (l:=L++ [⟨6,0,0,true,[[98]],0,true,[]⟩]) hTr false H) hfz4
   have q0:=Qp (Zz (L++ [⟨6,0,0,true,[[98]],0,true,[]⟩])).2 0
   have hb:=(rfl:Z8 [[.int .i64 6,.int .i64 0,.int .i64 0,.sl .full 1 [[.str [98]]],.int .i64 0,.nils]]=some [[.int .i64 6,.int .i64 0,.int .i64 0,.sl .none 1 [[.str [98]]],.int .i64 0,.nils]])
   simp only [Mo.cells,Zp,List.map_nil,List.map_cons,Za,Zg,Zm] at hap4 hap5
   generalize (Zz (L++ [⟨6,0,0,true,[[98]],0,true,[]⟩])).2=e at kV q0 hsn
   rotate_left
   all_goals
    by_cases hv:e=0
    · rw [decide_eq_true hv] at q0
      rw [if_pos hv] at hsn
      rw [← hsn] at hA5
      subst hv
      clear hfz4 hA4 hTr hLs hLl hby hxg hsn
      repeat' first|refine Jc (kM _) ?_|(apply ZhK;rfl;rfl;rfl;rfl;assumption)|refine Js ?_|refine JA ?_|refine JS ?_|refine Ji ?_|(apply qCv;rfl;rfl;rfl;assumption;exact IsV.any _)|refine JJ ?_|refine Jl ?_|refine Jx ?_|refine Jt ?_|refine Jo ?_|refine Jd (kV _) ?_|(apply Za5;rfl;rfl;rfl;rfl;assumption;rfl)|refine JB ?_|(apply dAq;rfl;rfl;rfl;rfl;rfl;rfl;(first|assumption|solve_by_elim))|refine JD ?_|refine Jh ?_|(apply Wp.drawS tOk follows;kernel_rfl;rfl)|fail
      refine DropQ.go [(0,slV b 1 (dlC l)),(3,o5),(4,.int .i64 ((i+1:Nat):Int))] ⟨rfl,rfl,Ze (Zd (n:=i+1) (by omega)),trivial⟩ ?_ rfl rfl ?_
      · simp [Zh,under,ApV.under hA5]
      · exact LoopI.go (m-1) (by omega) ⟨i+1,_,_,_,_,by omega,hA5,rfl,rfl⟩
    · rw [decide_eq_false hv] at q0
      rw [if_neg hv] at hsn
      rw [← hsn] at hA4
      clear hfz4 hA5 hTr hLs hLl hby hxg hsn
      repeat' first|refine Jc (kM _) ?_|refine Js ?_|refine JA ?_|refine JS ?_|refine Ji ?_|(apply qCv;rfl;rfl;rfl;assumption;exact IsV.any _)|refine JJ ?_|refine Jl ?_|refine Jx ?_|refine Jt ?_|refine Jo ?_|refine Jd (kV _) ?_|(apply Za5;rfl;rfl;rfl;rfl;assumption;rfl)|refine JB ?_|(apply dAq;rfl;rfl;rfl;rfl;rfl;rfl;(first|assumption|solve_by_elim))|refine JD ?_|refine Jh ?_|(apply Wp.drawS tOk follows;kernel_rfl;rfl)|fail
      refine DropQ.go [(0,slV b 1 (dlC l)),(3,out),(4,.int .i64 ((i+1:Nat):Int))] ⟨rfl,rfl,Ze (Zd (n:=i+1) (by omega)),trivial⟩ ?_ rfl rfl ?_
      · simp [Zh,under,ApV.under hA4]
      · exact LoopI.go (m-1) (by omega) ⟨i+1,_,_,_,_,by omega,hA4,rfl,rfl⟩
 · have e : i = l.length := by omega
   subst e
   rw [List.take_length] at hA
   rw [decide_eq_false (by omega)] at hlx
   have hfr:=fun m H=>hA.frz3 m H
   repeat' first|refine Jk ?_|refine Ji ?_|refine Jl ?_|refine Jt ?_|refine Jo ?_|fail
   all_goals exact hfr _ _
