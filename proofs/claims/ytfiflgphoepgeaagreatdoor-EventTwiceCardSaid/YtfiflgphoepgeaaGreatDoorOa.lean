/-
  Powers in the second text: the term of a product, the product of two.
-/
import Derived.Test.YtfiflgphoepgeaaGreatDoorNy
set_option maxHeartbeats 0
set_option maxRecDepth 100000
namespace Go.Vm
variable {α:Type} {l:List Pw} {i:Nat} {x:Pw}
theorem VO (P R:List α) (n:Nat):(P.take n++R).take n=(P++R).take n:=by
 rw [List.take_append,List.take_append,List.take_take,Nat.min_self,List.length_take]
 by_cases h:n≤P.length
 · rw [Nat.min_eq_left h,Nat.sub_self,Nat.sub_eq_zero_of_le h]
 · rw [Nat.min_eq_right (by omega)]
theorem Ze8 {A:List α} {x:α} {k n:Nat} (h1:k≤n) (h2:A.length+k≤9) (h3:k=n∨A.length+k=9):A++List.replicate k x=(A++List.replicate n x).take 9:=by
 rcases h3 with rfl|h3
 · rw [List.take_of_length_le (by simp;omega)]
 · rw [List.take_append, List.take_of_length_le (by omega), List.take_replicate]
   congr 2
   omega
theorem UX (x:α) (k:Nat):List.replicate (k+1) x=List.replicate k x++ [x]:=List.replicate_succ'
theorem Zcc (h:l[i]? = some x):UW (l.take (i+1))=UW (l.take i)++List.replicate x.2.toNat x.1:=by
 have e:l.take (i+1)=l.take i++ [x]:=by rw [List.take_add_one,h];rfl
 rw [e]
 simp [UW]
theorem Zc5 (h:l[i]? = some x):Zay (l.take (i+1))=Zay (l.take i)++List.replicate (-x.2).toNat (Zfz x.1):=by
 have e:l.take (i+1)=l.take i++ [x]:=by rw [List.take_add_one,h];rfl
 rw [e]
 simp [Zay]
end Go.Vm
namespace Go.Vm.Seat
open Go.Proofs
theorem Zh6 {b:Bool} {L:List Tm} {out:PV} {lv:List Nat} {nt:Nat} (h:ApV b 4 (Za L) out lv nt):∀ H,ZhX E0 32 out H=some (.int .i64 (L.length:Int)):=by
 have hl:=Zb L
 generalize Za L=C at h hl
 intro H
 rw [← hl]
 cases h with
 |nil=>rfl
 |full=>rfl
 |tok=>rfl
theorem Zmq (x:Tm):∀ H,CallOk E0 Tryz.prog 104 [.str WJ,.sl .full 4 [x.cells]] H (.agg (Zfz x).cells) H:=fun H=>by
 have:=Zgk WJ x H
 simp only [Zfz,Tm.cells,Za,Zm] at this ⊢
 exact this
theorem ZrN {l:List Pw} (hl:∀ x,x∈l→ -1000000000≤x.2∧x.2≤1000000000) (hlen:l.length≤1000000) (b:Bool):∀ H,CallOk E0 Tryz.prog 213 [slV b 5 (pwL l)] H (slV true 4 (Za ((Wx l).take 9))) H:=by
 have hpl:=ZO l
 refine Jw tOk fe213.ok (Zw _ _ _ _ _) ?_
 repeat' first|refine Jo ?_|fail
 refine Wp.while (fun m tm H => ∃ (i : Nat) (base : TM) (out : PV) (lv : List Nat) (nt : Nat), i + m = l.length ∧ ApV true 4 (Za ((UW (l.take i)).take 9)) out lv nt ∧
   tm=ovr base [(3,out),(0,slV b 5 (pwL l)),(4,.int .i64 (i:Int))]∧H=⟨[],0,lv,nt⟩)
  (fun m tm H hI=>?_) l.length _ _ ⟨0,_,_,_,_,by omega,.nil _ _ rfl,Zf ⟨rfl,rfl,rfl,trivial⟩,rfl⟩
 obtain ⟨i,base,out,lv,nt,hi,hA,rfl,rfl⟩:=hI
 by_cases hlt:i<l.length
 · obtain ⟨x, hx⟩ : ∃ x, l[i]? = some x := ⟨l[i], by simp⟩
   have hxb:=hl x (List.mem_of_getElem? hx)
   have hsn:=Zcc hx
   have hlx:=Zt (i:Int) ((pwL l).length:Int)
   rw [decide_eq_true (by rw [hpl];omega)] at hlx
   have hj:=Xb hx
   have hfin:=VO (UW (l.take i)) (List.replicate x.2.toNat x.1) 9
   have hAl:((UW (l.take i)).take 9).length≤9:=by rw [List.length_take];omega
   rw [← hsn] at hfin
   clear hsn
   generalize (UW (l.take i)).take 9=A at hA hfin hAl
   obtain ⟨X,hX⟩:∃ X,X=x.1:=⟨_,rfl⟩
   rw [← hX] at hfin
   have hXc:X.cells=x.1.cells:=by rw [hX]
   obtain ⟨⟨k',nm',s',b',kz'⟩,xn⟩:=x
   simp only [pwC,Tm.cells,List.cons_append,List.nil_append] at hj hxb hfin hXc
   repeat' first|refine Ji ?_|refine Jl ?_|refine Jo ?_|fail
   refine Wp.while (fun m2 tm H => ∃ (k : Nat) (base : TM) (out : PV) (lv : List Nat) (nt : Nat), A.length + k + m2 = 9 ∧ k ≤ xn.toNat ∧ ApV true 4 (Za (A ++ List.replicate k X)) out lv nt ∧
     tm=ovr base [(3,out),(0,slV b 5 (pwL l)),(4,.int .i64 (i:Int)),(5,.int .i64 (k:Int))]∧H=⟨[],0,lv,nt⟩)
    (fun m2 tm H hI=>?_) (9-A.length) _ _ ⟨0,_,_,_,_,by omega,by omega,by rw [List.replicate_zero,List.append_nil];exact hA,Zf ⟨rfl,rfl,rfl,rfl,trivial⟩,rfl⟩
   clear hA
   obtain ⟨k,base2,out2,lv2,nt2,hk,hkn,hA,rfl,rfl⟩:=hI
   have hL:=Zt (k:Int) xn
   have hN:=Zt ((A++List.replicate k X).length:Int) 9
   have hle:=Zh6 hA
   by_cases hgo:(k:Int)<xn∧(A++List.replicate k X).length<9
   · rw [decide_eq_true hgo.1] at hL
     rw [decide_eq_true (by have:=hgo.2;omega)] at hN
     obtain ⟨o1,lv1,nt1,hap1,hA1⟩:=QS hA X (by have:=hgo.2;omega)
     rw [List.append_assoc, ← UX] at hA1
     rw [hXc] at hap1
     have hm2:0<m2:=by
      have:=hgo.2
      simp only [List.length_append,List.length_replicate] at this
      omega
     have hkn2:k+1≤xn.toNat:=by have:=hgo.1;omega
     clear hgo
     generalize ((A++List.replicate k X).length:Int)=Q at hle hN
     repeat' first|refine Js ?_|refine JA ?_|refine Ji ?_|(apply qLe;rfl;rfl;rfl;assumption;exact IsV.any _)|refine Jx ?_|refine Jt ?_|refine Jo ?_|fail
     exact LoopI.go (m2-1) (by omega) ⟨k+1,_,o1,lv1,nt1,by omega,hkn2,hA1,Zf ⟨rfl,rfl,rfl,Zd (Zc (n:=k+1) (by omega)),trivial⟩,rfl⟩
   · have hend : A ++ List.replicate k X = (A ++ List.replicate xn.toNat X).take 9 := Ze8 hkn (by omega) (by
       simp only [List.length_append,List.length_replicate] at hgo
       omega)
     rw [hend,hfin] at hA
     have hcase:(decide ((k:Int)<xn)&&decide (((A++List.replicate k X).length:Int)<9))=false:=by
      rw [Bool.and_eq_false_iff,decide_eq_false_iff_not,decide_eq_false_iff_not]
      simp only [List.length_append,List.length_replicate] at hgo ⊢
      omega
     generalize ((A++List.replicate k X).length:Int)=Q at hle hN hcase
     generalize decide ((k:Int)<xn)=c1 at hL hcase
     generalize decide (Q<9)=c2 at hN hcase
     cases c1<;>cases c2<;>first|(exact absurd hcase (by decide))|skip
     all_goals
      repeat' first|refine Jk ?_|refine Ji ?_|(apply qLe;rfl;rfl;rfl;assumption;exact IsV.any _)|refine Jx ?_|refine Jt ?_|refine Jo ?_|fail
      exact LoopI.go (m-1) (by omega) ⟨i+1,_,out2,lv2,nt2,by omega,hA,Zf ⟨rfl,rfl,Zd (Zc (n:=i+1) (by omega)),trivial⟩,rfl⟩
 · have e : i = l.length := by omega
   subst e
   have hlx:=Zt (l.length:Int) ((pwL l).length:Int)
   rw [decide_eq_false (by rw [hpl];omega)] at hlx
   rw [List.take_length] at hA
   repeat' first|refine Ji ?_|refine Jl ?_|refine Jo ?_|fail
   refine Wp.while (fun m tm H => ∃ (i : Nat) (base : TM) (out : PV) (lv : List Nat) (nt : Nat), i + m = l.length ∧ ApV true 4 (Za ((UW l ++ Zay (l.take i)).take 9)) out lv nt ∧
     tm=ovr base [(3,out),(0,slV b 5 (pwL l)),(6,.int .i64 (i:Int))]∧H=⟨[],0,lv,nt⟩)
    (fun m tm H hI=>?_) l.length _ _ ⟨0,_,_,_,_,by omega,by rw [List.take_zero,show Zay []= [] from rfl,List.append_nil];exact hA,Zf ⟨rfl,rfl,rfl,trivial⟩,rfl⟩
   clear hA hlx hlt hi
   obtain ⟨i,base,out,lv,nt,hi,hA,rfl,rfl⟩:=hI
   by_cases hlt:i<l.length
   · obtain ⟨x, hx⟩ : ∃ x, l[i]? = some x := ⟨l[i], by simp⟩
     have hxb:=hl x (List.mem_of_getElem? hx)
     have hsn:=Zc5 hx
     have hlx:=Zt (i:Int) ((pwL l).length:Int)
     rw [decide_eq_true (by rw [hpl];omega)] at hlx
     have hj:=Xb hx
     have hfin:=VO (UW l++Zay (l.take i)) (List.replicate (-x.2).toNat (Zfz x.1)) 9
     have hAl:((UW l++Zay (l.take i)).take 9).length≤9:=by rw [List.length_take];omega
     rw [List.append_assoc (UW l), ← hsn] at hfin
     clear hsn
     generalize (UW l++Zay (l.take i)).take 9=A at hA hfin hAl
     have hIv:=Zmq x.1
     obtain ⟨X,hX⟩:∃ X,X=Zfz x.1:=⟨_,rfl⟩
     rw [← hX] at hfin hIv
     have hXc:X.cells= [.int .i64 3,.str WJ,.int .i64 0,.sl .none 4 [x.1.cells]]:=by
      rw [hX]
      simp only [Zfz,Tm.cells,Za,Zm]
     rw [hXc] at hIv
     clear hX
     obtain ⟨⟨k',nm',s',b',kz'⟩,xn⟩:=x
     simp only [pwC,Tm.cells,List.cons_append,List.nil_append,WJ] at hj hxb hfin hXc hIv
     have hw:IntKind.i64.wrap (0-xn)= -xn:=by rw [IntWalk.i64_in _ (by omega)];omega
     repeat' first|refine Ji ?_|refine Jl ?_|refine Jo ?_|fail
     refine Wp.while (fun m2 tm H => ∃ (k : Nat) (base : TM) (out : PV) (lv : List Nat) (nt : Nat), A.length + k + m2 = 9 ∧ k ≤ (-xn).toNat ∧ ApV true 4 (Za (A ++ List.replicate k X)) out lv nt ∧
       tm=ovr base [(3,out),(0,slV b 5 (pwL l)),(6,.int .i64 (i:Int)),(7,.int .i64 (k:Int))]∧H=⟨[],0,lv,nt⟩)
      (fun m2 tm H hI=>?_) (9-A.length) _ _ ⟨0,_,_,_,_,by omega,by omega,by rw [List.replicate_zero,List.append_nil];exact hA,Zf ⟨rfl,rfl,rfl,rfl,trivial⟩,rfl⟩
     clear hA
     obtain ⟨k,base2,out2,lv2,nt2,hk,hkn,hA,rfl,rfl⟩:=hI
     have hL:=Zt (k:Int) (IntKind.i64.wrap (0-xn))
     have hN:=Zt ((A++List.replicate k X).length:Int) 9
     have hle:=Zh6 hA
     by_cases hgo:(k:Int)< -xn∧(A++List.replicate k X).length<9
     · rw [decide_eq_true (by rw [hw]; exact hgo.1)] at hL
       rw [decide_eq_true (by have:=hgo.2;omega)] at hN
       obtain ⟨o1,lv1,nt1,hap1,hA1⟩:=QS hA X (by have:=hgo.2;omega)
       rw [List.append_assoc, ← UX] at hA1
       rw [hXc] at hap1
       have hm2:0<m2:=by
        have:=hgo.2
        simp only [List.length_append,List.length_replicate] at this
        omega
       have hkn2:k+1≤(-xn).toNat:=by have:=hgo.1;omega
       clear hgo
       generalize ((A++List.replicate k X).length:Int)=Q at hle hN
       repeat' first|refine Jc (hIv _) ?_|refine Js ?_|refine JA ?_|refine Ji ?_|(apply qLe;rfl;rfl;rfl;assumption;exact IsV.any _)|refine Jx ?_|refine Jt ?_|refine Jo ?_|fail
       exact LoopI.go (m2-1) (by omega) ⟨k+1,_,o1,lv1,nt1,by omega,hkn2,hA1,Zf ⟨rfl,rfl,rfl,Zd (Zc (n:=k+1) (by omega)),trivial⟩,rfl⟩
     · have hend : A ++ List.replicate k X = (A ++ List.replicate (-xn).toNat X).take 9 := Ze8 hkn (by omega) (by
         simp only [List.length_append,List.length_replicate] at hgo
         omega)
       rw [hend,hfin] at hA
       have hcase:(decide ((k:Int)<IntKind.i64.wrap (0-xn))&&decide (((A++List.replicate k X).length:Int)<9))=false:=by
        rw [hw,Bool.and_eq_false_iff,decide_eq_false_iff_not,decide_eq_false_iff_not]
        simp only [List.length_append,List.length_replicate] at hgo ⊢
        omega
       generalize ((A++List.replicate k X).length:Int)=Q at hle hN hcase
       generalize decide ((k:Int)<IntKind.i64.wrap (0-xn))=c1 at hL hcase
       generalize decide (Q<9)=c2 at hN hcase
       cases c1<;>cases c2<;>first|(exact absurd hcase (by decide))|skip
       all_goals
        repeat' first|refine Jk ?_|refine Ji ?_|(apply qLe;rfl;rfl;rfl;assumption;exact IsV.any _)|refine Jx ?_|refine Jt ?_|refine Jo ?_|fail
        exact LoopI.go (m-1) (by omega) ⟨i+1,_,out2,lv2,nt2,by omega,hA,Zf ⟨rfl,rfl,Zd (Zc (n:=i+1) (by omega)),trivial⟩,rfl⟩
   · have e : i = l.length := by omega
     subst e
     have hlx:=Zt (l.length:Int) ((pwL l).length:Int)
     rw [decide_eq_false (by rw [hpl];omega)] at hlx
     rw [List.take_length] at hA
     have hA:ApV true 4 (Za ((Wx l).take 9)) out lv nt:=hA
     repeat' first|refine Ji ?_|refine Jl ?_|refine Jo ?_|fail
     exact hA.frz3 _ _
end Go.Vm.Seat
namespace Go.Vm
variable {l:List Pw}
theorem ZbG {M:Nat}:∀ {l:List Tm},(∀ x,x∈l→x.size≤M)→Zl l≤l.length*M
 | [],_=>by simp [Zl]
 | x :: r, h => by
   have h1:=h x List.mem_cons_self
   have h2:=ZbG (M:=M) (l:=r) fun y hy=>h y (List.mem_cons_of_mem _ hy)
   rw [Zl,List.length_cons,Nat.add_mul]
   omega
theorem ZeB (h:∀ x,x∈l→x.1.size≤100000):∀ z,z∈Wx l→z.size≤100001:=fun z hz=>by
 rcases List.mem_append.1 hz with hz|hz
 · obtain ⟨x, hx, hz⟩ := List.mem_flatMap.1 hz
   rw [(List.mem_replicate.1 hz).2]
   have:=h x hx
   omega
 · obtain ⟨x, hx, hz⟩ := List.mem_flatMap.1 hz
   rw [(List.mem_replicate.1 hz).2]
   have:=h x hx
   simp only [Zfz,Tm.size,Zl]
   omega
theorem ZaD (f:Bool) (l:List Tm):(prodT f l).size≤1+Zl l:=by
 match l with
 | []=>simp [prodT,Tm.size,Zl]
 | [x]=>simp only [prodT,Zl];omega
 |x::y::r=>simp only [prodT,Tm.size];omega
def Zjf (l:List Pw):Int:=if l.any (fun x=>Z9 x.2 1000)=true then 7 else if 200<l.length then 3 else 0
theorem ZgA (l:List Pw):Zf3 l=(if Zjf l≠0 then [] else l,Zjf l):=by
 unfold Zf3 Zjf
 split
 · rfl
 · split<;>rfl
theorem Zjq {i:Nat} {x:Pw} (h:l[i]? = some x):(l.drop i).any (fun x=>Z9 x.2 1000)=(Z9 x.2 1000||(l.drop (i+1)).any (fun x=>Z9 x.2 1000)):=by
 rw [ZC h];rfl
end Go.Vm
namespace Go.Vm.Seat
variable {l:List Pw}
open Go.Proofs
theorem ZpR (hl:PwB 1000000000 l) (hlen:l.length≤100000) (b:Bool):∀ H,CallOk E0 Tryz.prog 188 [slV b 5 (pwL l)] H (.tup [.agg (XN false l).1.cells,.int .i64 (XN false l).2]) H:=by
 have hV:=ZpL (fun x hx=>(hl x hx).1) (by omega) b
 have hO:=ZrN (fun x hx=>(hl x hx).2) (by omega) b
 unfold XN
 by_cases h1:pvG l≠0
 · rw [if_pos h1]
   generalize pvG l=v at hV h1 ⊢
   clear hO
   simp only [Zn]
   refine Jw tOk fe188.ok (Yc _ _ _) ?_
   repeat' first|refine Jc (hV _) ?_|refine Jb ?_ ?_|refine Jo ?_|intro hb
   all_goals first
    | (exfalso;simp at hb;exact h1 hb)
    | rfl
 · rw [if_neg h1]
   have h1:=Classical.not_not.1 h1
   rw [h1] at hV
   have hOm:∀ z,z∈(Wx l).take 9→z.Ok∧z.size≤100001:=fun z hz=>⟨cls_ok.ops (fun x hx=>(hl x hx).1.1) z (List.mem_of_mem_take hz),ZeB (fun x hx=>(hl x hx).1.2) z (List.mem_of_mem_take hz)⟩
   have hO9:((Wx l).take 9).length≤9:=by rw [List.length_take];omega
   have hPV:=ZkQ (t:=prodT false ((Wx l).take 9)) (cls_ok.prodT (fun x hx=>(hOm x hx).1) (by omega)) (by
    have h2:=ZaD false ((Wx l).take 9)
    have h3:=ZbG (M:=100001) fun x hx=>(hOm x hx).2
    have h4:=Nat.mul_le_mul_right 100001 hO9
    omega)
   have hone:=Zlt VF (l:=[]) (by decide) true
   have hmul:=Zlt Vi (l:=(Wx l).take 9) (by omega) true
   generalize (Wx l).take 9=O at hO hO9 hPV hmul ⊢
   have hlO:=Zb O
   clear hOm
   simp only [Tm.cells,Za,Zh,Zq,VF] at hone
   by_cases h8:8<O.length
   · rw [if_pos h8]
     simp only [Zn]
     refine Jw tOk fe188.ok (Yc _ _ _) ?_
     repeat' first|refine Jc (hV _) ?_|refine Jc (hO _) ?_|refine Jl ?_|refine Jt ?_|refine Jb ?_ ?_|refine Jo ?_|intro hb
     all_goals first
      | (exfalso;rw [hlO] at hb;simp only [decide_eq_false_iff_not] at hb;omega)
      | rfl
   · rw [if_neg h8]
     obtain ⟨U,hU⟩:∃ U,U=prodT false O:=⟨_,rfl⟩
     rw [← hU] at hPV ⊢
     obtain ⟨v,hv⟩:∃ v,v=U.valid:=⟨_,rfl⟩
     rw [← hv] at hPV ⊢
     clear hv
     obtain ⟨R,e,hRe,hU1,hU2⟩:∃ (R:Tm) (e:Int),(if v≠0 then (Tm.zero,v) else (U,0))=(R,e)∧(v≠0→R= .zero∧e=v)∧(v=0→R=U∧e=0):=by
      by_cases h:v≠0
      · exact ⟨_,_,by rw [if_pos h],fun _=>⟨rfl,rfl⟩,fun h'=>absurd h' h⟩
      · exact ⟨_,_,by rw [if_neg h],fun h'=>absurd h' h,fun _=>⟨rfl,rfl⟩⟩
     rw [hRe]
     clear hRe
     show ∀ H,CallOk E0 Tryz.prog 188 _ H (.tup [.agg R.cells,.int .i64 e]) H
     have hfr:=ZE 0 hNil R e
     refine Jw tOk fe188.ok hfr ?_
     have hg8:=Xw (O.length:Int) 8
     rw [decide_eq_false (by omega)] at hg8
     match O,hO,hmul,hU,h8,hg8 with
     | [], hO, hmul, hU, h8, hg8 =>
       subst hU
       simp only [prodT,Tm.cells,Za,Zh,Zq,Vi,VF] at hO hmul hPV hU2
       by_cases hv:v≠0
       · obtain ⟨rfl, rfl⟩ := hU1 hv
         repeat' first|(apply qCl;rfl;rfl;rfl;rfl;first|exact hV _|exact hO _|exact hmul _|exact hone _|exact hPV _)|refine Jt ?_|refine Jb ?_ ?_|refine Jo ?_|intro hb
         all_goals first
          | (exfalso;simp at hb;exact hv hb)
          | (simp only [Zn];rfl)
       · obtain ⟨rfl, rfl⟩ := hU2 (Classical.not_not.1 hv)
         repeat' first|(apply qCl;rfl;rfl;rfl;rfl;first|exact hV _|exact hO _|exact hmul _|exact hone _|exact hPV _)|refine Jt ?_|refine Jb ?_ ?_|refine Jo ?_|intro hb
         all_goals first
          | (exfalso;simp at hb;exact hv hb)
          | (simp only [Tm.cells,Za,Zq];rfl)
     | [x], hO, hmul, hU, h8, hg8 =>
       have hU:U=x:=hU
       rw [hU] at hPV hU2
       simp only [Za,Zm,Tm.cells,Vi] at hO hmul
       by_cases hv:v≠0
       · obtain ⟨rfl, rfl⟩ := hU1 hv
         obtain ⟨k',nm',s',b',kz'⟩:=x
         simp only [Tm.cells] at hO hmul hPV
         repeat' first|(apply qCl;rfl;rfl;rfl;rfl;first|exact hV _|exact hO _|exact hmul _|exact hPV _)|refine Jt ?_|refine Jb ?_ ?_|refine Jo ?_|intro hb
         all_goals first
          | (exfalso;simp at hb;exact hv hb)
          | (simp only [Zn];rfl)
       · obtain ⟨hR, rfl⟩ := hU2 (Classical.not_not.1 hv)
         subst hR
         have hfx:=fun m H=>ZE m H R 0
         obtain ⟨k',nm',s',b',kz'⟩:=R
         simp only [Tm.cells] at hO hmul hPV hfx ⊢
         repeat' first|(apply qCl;rfl;rfl;rfl;rfl;first|exact hV _|exact hO _|exact hmul _|exact hPV _)|refine Jt ?_|refine Jb ?_ ?_|refine Jo ?_|intro hb
         all_goals first
          | (exfalso;simp at hb;exact hv hb)
          | exact hfx _ _
     | x :: y :: r, hO, hmul, hU, h8, hg8 =>
       subst hU
       have e2:slV true 4 (Za (x::y::r))= .sl .none 4 (x.cells::y.cells::Za r):=Zm _ _ _ _
       have e3:slV false 4 (Za (x::y::r))= .sl .none 4 (x.cells::y.cells::Za r):=Zm _ _ _ _
       have hE:(x.cells::y.cells::Za r).length=r.length+2:=by simp [Zb]
       simp only [prodT,Tm.cells,Vi] at hPV hmul
       rw [e2] at hO hmul
       rw [e3] at hPV hmul
       have hx1:Y2 E0 .eql 3 (.int .i64 (Int.ofNat (x.cells::y.cells::Za r).length)) (.int .i64 0)=some (.bool false):=by
        show some (PV.bool (decide (_=_)))=_
        rw [decide_eq_false (by simp;omega)]
       have hx2:Y2 E0 .eql 3 (.int .i64 (Int.ofNat (x.cells::y.cells::Za r).length)) (.int .i64 1)=some (.bool false):=by
        show some (PV.bool (decide (_=_)))=_
        rw [decide_eq_false (by simp;omega)]
       have hx3:Y2 E0 .gtr 3 (.int .i64 (Int.ofNat (x.cells::y.cells::Za r).length)) (.int .i64 8)=some (.bool false):=by
        show some (PV.bool (decide (_<_)))=_
        rw [decide_eq_false (by rw [hE];simp only [List.length_cons] at h8;simp;omega)]
       by_cases hv:v≠0
       · obtain ⟨rfl, rfl⟩ := hU1 hv
         repeat' first|(apply qCl;rfl;rfl;rfl;rfl;first|exact hV _|exact hO _|exact hmul _|exact hPV _)|refine Ji ?_|refine Jb ?_ ?_|refine Jo ?_|intro hb
         all_goals first
          | (exfalso;simp at hb;exact hv hb)
          | (simp only [Zn];rfl)
       · obtain ⟨rfl, rfl⟩ := hU2 (Classical.not_not.1 hv)
         repeat' first|(apply qCl;rfl;rfl;rfl;rfl;first|exact hV _|exact hO _|exact hmul _|exact hPV _)|refine Ji ?_|refine Jb ?_ ?_|refine Jo ?_|intro hb
         all_goals first
          | (exfalso;simp at hb;exact hv hb)
          | (simp only [prodT,Tm.cells,e3];rfl)
theorem Zro (b:Bool) (hlen:l.length≤1000000):∀ H,CallOk E0 Tryz.prog 215 [slV b 5 (pwL l)] H (.int .i64 (Zjf l)) H:=by
 have hpl:=ZO l
 unfold Zjf
 refine Jw tOk fe215.ok rfl ?_
 repeat' first|refine Jo ?_|fail
 refine Wp.while (fun m tm H => ∃ (i : Nat) (base : TM), i + m = l.length ∧ l.any (fun x => Z9 x.2 1000) = (l.drop i).any (fun x => Z9 x.2 1000) ∧
   tm=ovr base [(0,slV b 5 (pwL l)),(3,.int .i64 (i:Int))]∧H=hNil)
  (fun m tm H hI=>?_) l.length _ _ ⟨0,_,by omega,by rw [List.drop_zero],Zf ⟨rfl,rfl,trivial⟩,rfl⟩
 obtain ⟨i,base,hi,hgo,rfl,rfl⟩:=hI
 rw [hgo]
 by_cases hlt:i<l.length
 · obtain ⟨x, hx⟩ : ∃ x, l[i]? = some x := ⟨l[i], by simp⟩
   have hd:=Zjq hx
   have hlx:=Zt (i:Int) ((pwL l).length:Int)
   rw [decide_eq_true (by rw [hpl];omega)] at hlx
   have hL:=Zt x.2 (-1000)
   have hG:=Xw x.2 1000
   have hj:=Xb hx
   unfold Z9 at hd hgo ⊢
   generalize decide (x.2< -1000)=bL at hL hd
   generalize decide ((1000:Int)<x.2)=bG at hG hd
   obtain ⟨⟨k',nm',s',b',kz'⟩,xn⟩:=x
   simp only [pwC,Tm.cells,List.cons_append,List.nil_append] at hj
   rw [hd]
   cases bL<;>cases bG
   · rw [Bool.false_or, Bool.false_or]
     repeat' first|refine Ji ?_|refine Jl ?_|refine Jx ?_|refine Jt ?_|refine Jo ?_|fail
     all_goals exact LoopI.go (m-1) (by omega) ⟨i+1,_,by omega,rfl,Zf ⟨rfl,Zd (Zc (n:=i+1) (by omega)),trivial⟩,rfl⟩
   all_goals
    rw [if_pos (by simp)]
    repeat' first|refine Jk ?_|refine Ji ?_|refine Jl ?_|refine Jx ?_|refine Jt ?_|refine Jo ?_|fail
    all_goals rfl
 · have e : i = l.length := by omega
   subst e
   have hlx:=Zt (l.length:Int) ((pwL l).length:Int)
   rw [decide_eq_false (by rw [hpl];omega)] at hlx
   rw [List.drop_length,if_neg (by simp)]
   by_cases h2:200<l.length
   · rw [if_pos h2]
     repeat' first|refine Ji ?_|refine Jl ?_|refine Jb ?_ ?_|refine Jo ?_|intro hb
     all_goals first
      | (exfalso;rw [hpl] at hb;simp only [decide_eq_false_iff_not] at hb;omega)
      | rfl
   · rw [if_neg h2]
     repeat' first|refine Ji ?_|refine Jl ?_|refine Jb ?_ ?_|refine Jo ?_|intro hb
     all_goals first
      | (exfalso;rw [hpl] at hb;simp only [decide_eq_true_eq] at hb;omega)
      | rfl
