/-
  Powers in the second text: the operands of the term of a product.
-/
import Derived.Test.YtcopccjkfbmpcaaGreatDoorNw
import Derived.Test.YtcopccjkfbmpcaaGreatDoorNu
set_option maxHeartbeats 0
set_option maxRecDepth 100000
namespace Go.Vm
end Go.Vm
namespace Go.Vm.Seat
variable {t:Tm}
open Go.Proofs
theorem Zum (ht:t.Ok):t.size≤100000→t.ari=true→∀ {l:List Pw} {n B:Int},V7 l→PwB B l→0≤B→B+t.size≤1000000000→l.length+t.size≤100000→(n=1∨n= -1)→∀ b H,CallOk E0 Tryz.prog 197 [slV b 5 (pwL l),.agg t.cells,.int .i64 n] H (slV (t.colFl b) 5 (pwL (t.colR n l))) H:=by
 induction ht with
 | @mk k nm s f kz hk hs hn hl hok ih=>
 intro hsz har l n B hA hP hB hBt hlen hn1 b
 have hadd:=fun (h:(Tm.mk k nm s f kz).Ok)=>ZtW (l:=l) (t:= .mk k nm s f kz) (n:=n) (hP.mono (by omega)) ⟨h,by omega⟩ (by omega) (by omega) b
 simp only [Tm.size] at hsz hBt hlen
 have hsp:=Zso (.mk k nm s f kz)
 have hkl:=Yy kz
 rw [Tm.ari] at har
 rw [Tm.colR,Tm.colFl]
 simp only [Tm.sym,Tm.cells] at hsp ⊢
 refine Jw tOk fe197.ok (ZK _ _ _ _ _) ?_ (by simp only [Zx,Z5];simp [frzG,Xq];rfl)
 by_cases he:Zbi k nm=true
 · rw [if_pos he, if_pos he]
   rw [he] at hsp
   rw [if_pos he] at har
   have har:Zfs kz=true:=by
    split at har
    · exact har
    · cases har
   have hkar:=(ZcR kz).1 har
   obtain ⟨n',hn'⟩:∃ n',n'=if nm=VF then -n else n:=⟨_,rfl⟩
   rw [← hn']
   have hn2:n'=1∨n'= -1:=by
    rw [hn']
    split<;>omega
   have hw:IntKind.i64.wrap (0-n)= -n:=by rw [IntWalk.i64_in _ (by omega)];omega
   obtain ⟨rfl,hnm⟩:=WI he
   clear hadd
   rcases hnm with rfl|rfl|rfl
   all_goals
    first
     | rw [if_pos rfl] at hn'
     | rw [if_neg (by decide)] at hn'
    simp only [Uc,VF,Uj] at hsp ⊢
    repeat' first|refine Jc (hsp _) ?_|refine Jt ?_|refine Jo ?_|fail
    refine Wp.while (fun m tm H => ∃ (i : Nat) (base : TM), i + m = kz.length ∧
      tm=ovr base [(0,slV (Qx (kz.take i) b) 5 (pwL (UL (kz.take i) n' l))),(2,.int .i64 n'),(4,.ptr 0 4 0 0),(7,.int .i64 (i:Int))]∧H=⟨[.cells 4 [[.int .i64 3,.str _,.int .i64 s,slV f 4 (Za kz)]]],0,[],0⟩)
     (fun m tm H hI=>?_) kz.length _ _ ⟨0,_,by omega,Zf ⟨rfl,Ze (by first|(rw [hn'];done)|(rw [hn'];exact hw)),rfl,rfl,trivial⟩,rfl⟩
    obtain ⟨i,base,hi,rfl,rfl⟩:=hI
    have h2:=ZL kz i
    by_cases hlt:i<kz.length
    · obtain ⟨t', ht'⟩ : ∃ t', kz[i]? = some t' := ⟨kz[i], by simp⟩
      have hm:t'∈kz:=List.mem_of_getElem? ht'
      have h5:Zl (kz.take (i+1))=Zl (kz.take i)+t'.size:=by
       rw [List.take_add_one,ht',UR]
       simp [Zl]
      have h4:=ZL kz (i+1)
      obtain ⟨f1,f2,f3⟩:=ZeX (ts:=kz.take i) (n:=n') ((ZcR _).2 fun x hx=>hkar x (List.mem_of_mem_take hx)) hA hn2 hB (fun x hx=>hok x (List.mem_of_mem_take hx)) (by omega) hP
      have hc:=ih t' hm (by omega) (hkar t' hm) f1 f2 (by omega) (by omega) (by omega) hn2 (Qx (kz.take i) b)
      rw [← Zbs n' l ht', ← Zap b ht'] at hc
      obtain ⟨k',nm',s',b',kz'⟩:=t'
      have hj:=Zk ht'
      simp only [Tm.cells] at hc
      clear ih f1 f2 f3
      have hlx:=Zq (i:Int) ((Za kz).length:Int)
      rw [decide_eq_true (by rw [Zb];omega)] at hlx
      repeat' first|refine Jc (hc _) ?_|refine Ji ?_|refine Jl ?_|refine Jx ?_|refine Jo ?_|fail
      exact LoopI.go (m-1) (by omega) ⟨i+1,_,by omega,Zf ⟨rfl,rfl,rfl,Ze (Zd (n:=i+1) (by omega)),trivial⟩,rfl⟩
    · have e : i = kz.length := by omega
      subst e
      clear ih
      have hlx:=Zq (kz.length:Int) ((Za kz).length:Int)
      rw [decide_eq_false (by rw [Zb];omega)] at hlx
      rw [List.take_length]
      repeat' first|refine Ji ?_|refine Jl ?_|refine Jo ?_|fail
      exact ZK _ _ _ _ _
 · rw [if_neg he, if_neg he]
   rw [Bool.eq_false_iff.2 he] at hsp
   have hadd:=hadd (.mk hk hs hn hl hok)
   simp only [Tm.cells] at hadd
   clear ih
   repeat' first|refine Jc (hsp _) ?_|refine Jc (hadd _) ?_|refine Jt ?_|refine Jo ?_|fail
   all_goals exact ZK _ _ _ _ _
theorem ZaP (m:Nat) (H:Heap) (b:Bool) (l:List (List PV)) (e:Int):frz3 m H (.tup [slV b 5 l,.int .i64 e])=some (.tup [slV b 5 l,.int .i64 e]):=by
 rw [WW]
 simp only [Wn,Zln]
 rfl
theorem Zqx (ht:t.Ok) (hs:t.size≤100000):∃ b,∀ H,CallOk E0 Tryz.prog 181 [.agg t.cells] H (.tup [slV b 5 (pwL (ofR t).1),.int .i64 (ofR t).2]) H:=by
 have hV:=ZnJ ht (by omega)
 have har:=Zvh ht (by omega)
 have hcol:=fun (h:t.ari=true)=>Zum ht hs h (l:=[]) (n:=1) (B:=0) trivial (PwB.nil 0) (by omega) (by omega) (by simp;omega) (.inl rfl) true
 have hnil:slV true 5 (pwL [])= .nils:=Zg 5
 unfold ofR
 by_cases h1:t.valid≠0
 · rw [if_pos h1]
   refine ⟨true,?_⟩
   rw [hnil]
   generalize t.valid=v at hV h1 ⊢
   clear har hcol
   obtain ⟨k,nm,s,f,kz⟩:=t
   simp only [Tm.cells] at hV ⊢
   refine Jw tOk fe181.ok rfl ?_
   repeat' first|refine Jc (hV _) ?_|refine Jb ?_ ?_|refine Jo ?_|intro hb
   all_goals first
    | rfl
    | (exfalso;simp_all;done)
 · rw [if_neg h1]
   have h1:=Classical.not_not.1 h1
   rw [h1] at hV
   cases h2:t.ari with
   | false =>
     rw [if_pos rfl]
     refine ⟨true,?_⟩
     rw [hnil]
     rw [h2] at har
     clear hcol
     obtain ⟨k,nm,s,f,kz⟩:=t
     simp only [Tm.cells] at hV har ⊢
     refine Jw tOk fe181.ok rfl ?_
     repeat' first|refine Jc (hV _) ?_|refine Jc (har _) ?_|refine Jt ?_|refine Jo ?_|fail
     all_goals rfl
   | true =>
     rw [if_neg (by decide)]
     rw [h2] at har
     have hcol:=hcol h2
     rw [hnil] at hcol
     generalize t.colR 1 []=L at hcol ⊢
     generalize t.colFl true=F at hcol
     have hlen:=Z0 L
     obtain ⟨k,nm,s,f,kz⟩:=t
     simp only [Tm.cells] at hV har hcol ⊢
     by_cases h3:200<L.length
     · rw [if_pos h3]
       refine ⟨true,?_⟩
       rw [hnil]
       refine Jw tOk fe181.ok rfl ?_
       repeat' first|(apply qCl;rfl;rfl;rfl;rfl;first|exact hV _|exact har _|exact hcol _)|refine Jl ?_|refine Jt ?_|refine Jb ?_ ?_|refine Jo ?_|intro hb
       all_goals first
        | rfl
        | (exfalso;rw [hlen] at hb;simp only [decide_eq_false_iff_not] at hb;omega)
     · rw [if_neg h3]
       refine ⟨F,?_⟩
       refine Jw tOk fe181.ok (ZaP _ _ _ _ _) ?_
       repeat' first|(apply qCl;rfl;rfl;rfl;rfl;first|exact hV _|exact har _|exact hcol _)|refine Jl ?_|refine Jt ?_|refine Jb ?_ ?_|refine Jo ?_|intro hb
       all_goals first
        | exact ZaP _ _ _ _ _
        | (exfalso;rw [hlen] at hb;simp only [decide_eq_true_eq] at hb;omega)
end Go.Vm.Seat
namespace Go.Vm
variable {l:List Pw}
def VG (l:List Pw) (i:Nat):Option Tm:=if i=0 then none else (l[i-1]?).map (·.1)
theorem Zgb {i:Nat} {x:Pw} (h:l[i]? = some x):pvL (VG l i) (l.drop i)=if x.1.valid≠0 then x.1.valid else if x.1.sym=true then 1 else if (decide (x.2=0)||Yi x.2 1000)=true then 7 else if Qa (VG l i) x.1=true then 5 else pvL (VG l (i+1)) (l.drop (i+1)):=by
 have e:VG l (i+1)=some x.1:=by
  unfold VG
  rw [if_neg (by omega),Nat.add_sub_cancel,h]
  rfl
 rw [Zy h,e]
 rfl
theorem Zby {j:Nat} {y:Pw} (h:l[j]? = some y):VG l (j+1)=some y.1:=by
 unfold VG
 rw [if_neg (by omega),Nat.add_sub_cancel,h]
 rfl
end Go.Vm
namespace Go.Vm.Seat
open Go.Proofs
theorem Xt (a b:Int):Xo E0 .gtr 3 (.int .i64 a) (.int .i64 b)=some (.bool (decide (b<a))):=rfl
theorem Y0 (a b:Int):Xo E0 .geq 3 (.int .i64 a) (.int .i64 b)=some (.bool (decide (b≤a))):=rfl
theorem Zq1 {a b:Int} (h: -9223372036854775808≤a-b) (h':a-b≤9223372036854775807):Xo E0 .sub 3 (.int .i64 a) (.int .i64 b)=some (.int .i64 (a-b)):=by
 show some (PV.int .i64 (IntKind.i64.wrap (a-b)))=_
 rw [IntWalk.i64_in _ (by omega)]
theorem Ztp {l:List Pw} (hl:∀ x,x∈l→x.1.Ok∧x.1.size≤100000) (hlen:l.length≤1000000) (b:Bool):∀ H,CallOk E0 Tryz.prog 198 [slV b 5 (pwL l)] H (.int .i64 (pvG l)) H:=by
 have hpl:=Z0 l
 unfold pvG
 refine Jw tOk fe198.ok rfl ?_
 by_cases h2:200<l.length
 · rw [if_pos h2]
   repeat' first|refine Jl ?_|refine Jb ?_ ?_|refine Jo ?_|intro hb
   all_goals first
    | rfl
    | (exfalso;rw [hpl] at hb;simp only [decide_eq_false_iff_not] at hb;omega)
 · rw [if_neg h2]
   repeat' first|refine Jl ?_|refine Jb ?_ ?_|refine Jo ?_|intro hb
   · exfalso;rw [hpl] at hb;simp only [decide_eq_true_eq] at hb;omega
   refine Wp.while (fun m tm H => ∃ (i : Nat) (base : TM), i + m = l.length ∧ pvL none l = pvL (VG l i) (l.drop i) ∧
     tm=ovr base [(0,slV b 5 (pwL l)),(3,.int .i64 (i:Int))]∧H=hNil)
    (fun m tm H hI=>?_) l.length _ _ ⟨0,_,by omega,by rw [List.drop_zero];rfl,Zf ⟨rfl,rfl,trivial⟩,rfl⟩
   obtain ⟨i,base,hi,hgo,rfl,rfl⟩:=hI
   rw [hgo]
   clear hb hgo
   by_cases hlt:i<l.length
   · obtain ⟨x, hx⟩ : ∃ x, l[i]? = some x := ⟨l[i], by simp⟩
     have hxs:=hl x (List.mem_of_getElem? hx)
     have hV:=ZnJ hxs.1 (by have:=hxs.2;omega)
     have hsp:=Zso x.1
     have hd:=Zgb hx
     have hlx:=Zq (i:Int) ((pwL l).length:Int)
     rw [decide_eq_true (by rw [hpl];omega)] at hlx
     have hZ:=Z6 x.2 0
     have hL:=Zq x.2 (-1000)
     have hG:=Xt x.2 1000
     have hC:∀ (j:Nat) (y:Pw),l[j]? = some y→∃ c,(∀ H,CallOk E0 Tryz.prog 67 [.agg y.1.cells,.agg x.1.cells] H (.int .i64 c) H)∧(i=j+1→Qa (VG l i) x.1=decide (0≤c)):=fun j y hy=>⟨_,ZtA (hl y (List.mem_of_getElem? hy)) hxs,fun e=>by rw [e,Zby hy];rfl⟩
     have hC0:i=0→Qa (VG l i) x.1=false:=fun e=>by rw [e];rfl
     have hj:=Xh hx
     unfold Yi at hd
     generalize pvL (VG l i) (l.drop i)=R at hd ⊢
     generalize Qa (VG l i) x.1=LB at hd hC hC0
     generalize decide (x.2=0)=bZ at hZ hd
     generalize decide (x.2< -1000)=bL at hL hd
     generalize decide ((1000:Int)<x.2)=bG at hG hd
     generalize x.1.valid=v at hV hd
     generalize x.1.sym=sy at hsp hd
     obtain ⟨⟨k',nm',s',b',kz'⟩,xn⟩:=x
     simp only [pwC,Tm.cells,List.cons_append,List.nil_append] at hV hsp hj hC
     by_cases hv:v≠0
     · rw [if_pos hv] at hd
       repeat' first|refine Jc (hV _) ?_|refine Jc (hsp _) ?_|refine Ji ?_|refine Jl ?_|refine Jx ?_|refine Jb ?_ ?_|refine Jo ?_|intro hb
       all_goals first
        | (exfalso;simp at hb;exact hv hb)
        | rw [hd]
     have hv:=Classical.not_not.1 hv
     subst hv
     rw [if_neg (by simp)] at hd
     cases sy
     rotate_left
     · rw [if_pos rfl] at hd
       repeat' first|refine Jc (hV _) ?_|refine Jc (hsp _) ?_|refine Ji ?_|refine Jl ?_|refine Jx ?_|refine Jt ?_|refine Jo ?_|fail
       all_goals rw [hd]
     rw [if_neg (by decide)] at hd
     by_cases hbad:(bZ||(bL||bG))=true
     · rw [if_pos hbad] at hd
       cases bZ<;>cases bL<;>cases bG<;>first|(exact absurd hbad (by decide))|skip
       all_goals
        repeat' first|refine Jk ?_|refine Jc (hV _) ?_|refine Jc (hsp _) ?_|refine Ji ?_|refine Jl ?_|refine Jx ?_|refine Jt ?_|refine Jo ?_|fail
        all_goals rw [hd]
     · rw [if_neg hbad] at hd
       obtain rfl:bZ=false:=by cases bZ<;>simp_all
       obtain rfl:bL=false:=by cases bL<;>simp_all
       obtain rfl:bG=false:=by cases bG<;>simp_all
       match i,hi,hlt,hx,hj,hC0,hC,hlx with
       | 0, hi, hlt, hx, hj, hC0, hC, hlx =>
         rw [hC0 rfl,if_neg (by decide)] at hd
         repeat' first|refine Jc (hV _) ?_|refine Jc (hsp _) ?_|refine Ji ?_|refine Jl ?_|refine Jx ?_|refine Jt ?_|refine Jo ?_|(apply dK;rfl;rfl;rfl)|(apply dF (ty:=4);rfl;rfl;rfl;rfl)|refine Jh ?_|(apply Wp.draw tOk follows;kernel_rfl)|fail
         all_goals exact LoopI.go (m-1) (by omega) ⟨0+1,_,by omega,by rw [hd],Zf ⟨rfl,Ze (Zd (n:=0+1) (by omega)),trivial⟩,rfl⟩
       | j + 1, hi, hlt, hx, hj, hC0, hC, hlx =>
         obtain ⟨y,hy⟩:∃ y,l[j]? = some y:=⟨l[j],by simp⟩
         obtain ⟨c,hCy,hLB⟩:=hC j y hy
         have hLB:=hLB rfl
         have hg0:=Xt ((j+1:Nat):Int) 0
         rw [decide_eq_true (by omega)] at hg0
         have hsb:Xo E0 .sub 3 (.int .i64 ((j+1:Nat):Int)) (.int .i64 1)=some (.int .i64 (j:Int)):=by
          rw [Zq1 (by omega) (by omega)]
          congr 2
          omega
         have hjy:=Xh hy
         have hge:=Y0 c 0
         rw [← hLB] at hge
         obtain ⟨⟨k2,nm2,s2,b2,kz2⟩,yn⟩:=y
         simp only [pwC,Tm.cells,List.cons_append,List.nil_append] at hCy hjy
         cases LB
         · rw [if_neg (by decide)] at hd
           repeat' first|refine Jc (hV _) ?_|refine Jc (hsp _) ?_|refine Ji ?_|refine Jl ?_|refine Jx ?_|refine Jt ?_|refine Jo ?_|refine Jd (hCy _) ?_|refine JD ?_|refine JI ?_|(apply dT (ty:=4);rfl;rfl;rfl;rfl)|(apply dF (ty:=4);rfl;rfl;rfl;rfl)|refine Jh ?_|(apply Wp.draw tOk follows;kernel_rfl)|fail
           all_goals exact LoopI.go (m-1) (by omega) ⟨j+1+1,_,by omega,by rw [hd],Zf ⟨rfl,Ze (Zd (n:=j+1+1) (by omega)),trivial⟩,rfl⟩
         · rw [if_pos rfl] at hd
           repeat' first|refine Jc (hV _) ?_|refine Jc (hsp _) ?_|refine Ji ?_|refine Jl ?_|refine Jx ?_|refine Jt ?_|refine Jo ?_|refine Jd (hCy _) ?_|refine JD ?_|refine JI ?_|(apply dT (ty:=4);rfl;rfl;rfl;rfl)|refine Jh ?_|(apply Wp.draw tOk follows;kernel_rfl)|fail
           all_goals rw [hd]
   · have e : i = l.length := by omega
     subst e
     have hlx:=Zq (l.length:Int) ((pwL l).length:Int)
     rw [decide_eq_false (by rw [hpl];omega)] at hlx
     repeat' first|refine Ji ?_|refine Jl ?_|refine Jo ?_|fail
     rw [List.drop_length]
     rfl
end Go.Vm.Seat
namespace Go.Vm
variable {α:Type} {l:List Pw} {i:Nat} {x:Pw}
theorem U9 (P R:List α) (n:Nat):(P.take n++R).take n=(P++R).take n:=by
 rw [List.take_append,List.take_append,List.take_take,Nat.min_self,List.length_take]
 by_cases h:n≤P.length
 · rw [Nat.min_eq_left h,Nat.sub_self,Nat.sub_eq_zero_of_le h]
 · rw [Nat.min_eq_right (by omega)]
theorem Zgq {A:List α} {x:α} {k n:Nat} (h1:k≤n) (h2:A.length+k≤9) (h3:k=n∨A.length+k=9):A++List.replicate k x=(A++List.replicate n x).take 9:=by
 rcases h3 with rfl|h3
 · rw [List.take_of_length_le (by simp;omega)]
 · rw [List.take_append, List.take_of_length_le (by omega), List.take_replicate]
   congr 2
   omega
theorem QR (x:α) (k:Nat):List.replicate (k+1) x=List.replicate k x++ [x]:=List.replicate_succ'
theorem Zd6 (h:l[i]? = some x):QK (l.take (i+1))=QK (l.take i)++List.replicate x.2.toNat x.1:=by
 have e:l.take (i+1)=l.take i++ [x]:=by rw [List.take_add_one,h];rfl
 rw [e]
 simp [QK]
theorem ZdF (h:l[i]? = some x):ZbF (l.take (i+1))=ZbF (l.take i)++List.replicate (-x.2).toNat (ZfB x.1):=by
 have e:l.take (i+1)=l.take i++ [x]:=by rw [List.take_add_one,h];rfl
 rw [e]
 simp [ZbF]
end Go.Vm
namespace Go.Vm.Seat
open Go.Proofs
theorem ZiD {b:Bool} {L:List Tm} {out:PV} {lv:List Nat} {nt:Nat} (h:ApV b 4 (Za L) out lv nt):∀ H,ZhL E0 29 out H=some (.int .i64 (L.length:Int)):=by
 have hl:=Zb L
 generalize Za L=C at h hl
 intro H
 rw [← hl]
 cases h with
 |nil=>rfl
 |full=>rfl
 |tok=>rfl
theorem Zod (x:Tm):∀ H,CallOk E0 Tryz.prog 129 [.str VF,.sl .full 4 [x.cells]] H (.agg (ZfB x).cells) H:=fun H=>by
 have:=Zdt VF x H
 simp only [ZfB,Tm.cells,Za,Zm] at this ⊢
 exact this
theorem Zv4 {l:List Pw} (hl:∀ x,x∈l→ -1000000000≤x.2∧x.2≤1000000000) (hlen:l.length≤1000000) (b:Bool):∀ H,CallOk E0 Tryz.prog 199 [slV b 5 (pwL l)] H (slV true 4 (Za ((Vh l).take 9))) H:=by
 have hpl:=Z0 l
 refine Jw tOk fe199.ok (ZK _ _ _ _ _) ?_
 repeat' first|refine Jo ?_|fail
 refine Wp.while (fun m tm H => ∃ (i : Nat) (base : TM) (out : PV) (lv : List Nat) (nt : Nat), i + m = l.length ∧ ApV true 4 (Za ((QK (l.take i)).take 9)) out lv nt ∧
   tm=ovr base [(3,out),(0,slV b 5 (pwL l)),(4,.int .i64 (i:Int))]∧H=⟨[],0,lv,nt⟩)
  (fun m tm H hI=>?_) l.length _ _ ⟨0,_,_,_,_,by omega,.nil _ _ rfl,Zf ⟨rfl,rfl,rfl,trivial⟩,rfl⟩
 obtain ⟨i,base,out,lv,nt,hi,hA,rfl,rfl⟩:=hI
 by_cases hlt:i<l.length
 · obtain ⟨x, hx⟩ : ∃ x, l[i]? = some x := ⟨l[i], by simp⟩
   have hxb:=hl x (List.mem_of_getElem? hx)
   have hsn:=Zd6 hx
   have hlx:=Zq (i:Int) ((pwL l).length:Int)
   rw [decide_eq_true (by rw [hpl];omega)] at hlx
   have hj:=Xh hx
   have hfin:=U9 (QK (l.take i)) (List.replicate x.2.toNat x.1) 9
   have hAl:((QK (l.take i)).take 9).length≤9:=by rw [List.length_take];omega
   rw [← hsn] at hfin
   clear hsn
   generalize (QK (l.take i)).take 9=A at hA hfin hAl
   obtain ⟨X,hX⟩:∃ X,X=x.1:=⟨_,rfl⟩
   rw [← hX] at hfin
   have hXc:X.cells=x.1.cells:=by rw [hX]
   obtain ⟨⟨k',nm',s',b',kz'⟩,xn⟩:=x
   simp only [pwC,Tm.cells,List.cons_append,List.nil_append] at hj hxb hfin hXc
   repeat' first|refine Ji ?_|refine Jl ?_|refine Jo ?_|fail
   refine Wp.while (fun m2 tm H => ∃ (k : Nat) (base : TM) (out : PV) (lv : List Nat) (nt : Nat), A.length + k + m2 = 9 ∧ k ≤ xn.toNat ∧ ApV true 4 (Za (A ++ List.replicate k X)) out lv nt ∧
     tm=ovr base [(3,out),(0,slV b 5 (pwL l)),(4,.int .i64 (i:Int)),(5,.int .i64 (k:Int))]∧H=⟨[],0,lv,nt⟩)
    (fun m2 tm H hI=>?_) (9-A.length) _ _ ⟨0,_,_,_,_,by omega,by omega,by rw [List.replicate_zero,List.append_nil];exact hA,Zf ⟨rfl,rfl,rfl,rfl,trivial⟩,rfl⟩
   clear hA
   obtain ⟨k,base2,out2,lv2,nt2,hk,hkn,hA,rfl,rfl⟩:=hI
   have hL:=Zq (k:Int) xn
   have hN:=Zq ((A++List.replicate k X).length:Int) 9
   have hle:=ZiD hA
   by_cases hgo:(k:Int)<xn∧(A++List.replicate k X).length<9
   · rw [decide_eq_true hgo.1] at hL
     rw [decide_eq_true (by have:=hgo.2;omega)] at hN
     obtain ⟨o1,lv1,nt1,hap1,hA1⟩:=QN hA X (by have:=hgo.2;omega)
     rw [List.append_assoc, ← QR] at hA1
     rw [hXc] at hap1
     have hm2:0<m2:=by
      have:=hgo.2
      simp only [List.length_append,List.length_replicate] at this
      omega
     have hkn2:k+1≤xn.toNat:=by have:=hgo.1;omega
     clear hgo
     generalize ((A++List.replicate k X).length:Int)=Q at hle hN
     repeat' first|refine Js ?_|refine JA ?_|refine Ji ?_|(apply qLe;rfl;rfl;rfl;assumption;exact IsV.any _)|refine Jx ?_|refine Jt ?_|refine Jo ?_|fail
     exact LoopI.go (m2-1) (by omega) ⟨k+1,_,o1,lv1,nt1,by omega,hkn2,hA1,Zf ⟨rfl,rfl,rfl,Ze (Zd (n:=k+1) (by omega)),trivial⟩,rfl⟩
   · have hend : A ++ List.replicate k X = (A ++ List.replicate xn.toNat X).take 9 := Zgq hkn (by omega) (by
       simp only [List.length_append,List.length_replicate] at hgo
       omega)
     rw [hend,hfin] at hA
     have hcase:(decide ((k:Int)<xn)&&decide (((A++List.replicate k X).length:Int)<9))=false:=by
      rw [Bool.and_eq_false_iff,decide_eq_false_iff_not,decide_eq_false_iff_not]
      simp only [List.length_append,List.length_replicate] at hgo ⊢
      omega
     generalize ((A++List.replicate k X).length:Int)=Q at hle hN hcase
     generalize decide ((k:Int)<xn)=c1 at hL hcase
     generalize decide (Q<9)=c2 at hN hcase
     cases c1<;>cases c2<;>first|(exact absurd hcase (by decide))|skip
     all_goals
      repeat' first|refine Jk ?_|refine Ji ?_|(apply qLe;rfl;rfl;rfl;assumption;exact IsV.any _)|refine Jx ?_|refine Jt ?_|refine Jo ?_|fail
      exact LoopI.go (m-1) (by omega) ⟨i+1,_,out2,lv2,nt2,by omega,hA,Zf ⟨rfl,rfl,Ze (Zd (n:=i+1) (by omega)),trivial⟩,rfl⟩
 · have e : i = l.length := by omega
   subst e
   have hlx:=Zq (l.length:Int) ((pwL l).length:Int)
   rw [decide_eq_false (by rw [hpl];omega)] at hlx
   rw [List.take_length] at hA
   repeat' first|refine Ji ?_|refine Jl ?_|refine Jo ?_|fail
   refine Wp.while (fun m tm H => ∃ (i : Nat) (base : TM) (out : PV) (lv : List Nat) (nt : Nat), i + m = l.length ∧ ApV true 4 (Za ((QK l ++ ZbF (l.take i)).take 9)) out lv nt ∧
     tm=ovr base [(3,out),(0,slV b 5 (pwL l)),(6,.int .i64 (i:Int))]∧H=⟨[],0,lv,nt⟩)
    (fun m tm H hI=>?_) l.length _ _ ⟨0,_,_,_,_,by omega,by rw [List.take_zero,show ZbF []= [] from rfl,List.append_nil];exact hA,Zf ⟨rfl,rfl,rfl,trivial⟩,rfl⟩
   clear hA hlx hlt hi
   obtain ⟨i,base,out,lv,nt,hi,hA,rfl,rfl⟩:=hI
   by_cases hlt:i<l.length
   · obtain ⟨x, hx⟩ : ∃ x, l[i]? = some x := ⟨l[i], by simp⟩
     have hxb:=hl x (List.mem_of_getElem? hx)
     have hsn:=ZdF hx
     have hlx:=Zq (i:Int) ((pwL l).length:Int)
     rw [decide_eq_true (by rw [hpl];omega)] at hlx
     have hj:=Xh hx
     have hfin:=U9 (QK l++ZbF (l.take i)) (List.replicate (-x.2).toNat (ZfB x.1)) 9
     have hAl:((QK l++ZbF (l.take i)).take 9).length≤9:=by rw [List.length_take];omega
     rw [List.append_assoc (QK l), ← hsn] at hfin
     clear hsn
     generalize (QK l++ZbF (l.take i)).take 9=A at hA hfin hAl
     have hIv:=Zod x.1
     obtain ⟨X,hX⟩:∃ X,X=ZfB x.1:=⟨_,rfl⟩
     rw [← hX] at hfin hIv
     have hXc:X.cells= [.int .i64 3,.str VF,.int .i64 0,.sl .none 4 [x.1.cells]]:=by
      rw [hX]
      simp only [ZfB,Tm.cells,Za,Zm]
     rw [hXc] at hIv
     clear hX
     obtain ⟨⟨k',nm',s',b',kz'⟩,xn⟩:=x
     simp only [pwC,Tm.cells,List.cons_append,List.nil_append,VF] at hj hxb hfin hXc hIv
     have hw:IntKind.i64.wrap (0-xn)= -xn:=by rw [IntWalk.i64_in _ (by omega)];omega
     repeat' first|refine Ji ?_|refine Jl ?_|refine Jo ?_|fail
     refine Wp.while (fun m2 tm H => ∃ (k : Nat) (base : TM) (out : PV) (lv : List Nat) (nt : Nat), A.length + k + m2 = 9 ∧ k ≤ (-xn).toNat ∧ ApV true 4 (Za (A ++ List.replicate k X)) out lv nt ∧
       tm=ovr base [(3,out),(0,slV b 5 (pwL l)),(6,.int .i64 (i:Int)),(7,.int .i64 (k:Int))]∧H=⟨[],0,lv,nt⟩)
      (fun m2 tm H hI=>?_) (9-A.length) _ _ ⟨0,_,_,_,_,by omega,by omega,by rw [List.replicate_zero,List.append_nil];exact hA,Zf ⟨rfl,rfl,rfl,rfl,trivial⟩,rfl⟩
     clear hA
     obtain ⟨k,base2,out2,lv2,nt2,hk,hkn,hA,rfl,rfl⟩:=hI
     have hL:=Zq (k:Int) (IntKind.i64.wrap (0-xn))
     have hN:=Zq ((A++List.replicate k X).length:Int) 9
     have hle:=ZiD hA
     by_cases hgo:(k:Int)< -xn∧(A++List.replicate k X).length<9
     · rw [decide_eq_true (by rw [hw]; exact hgo.1)] at hL
       rw [decide_eq_true (by have:=hgo.2;omega)] at hN
       obtain ⟨o1,lv1,nt1,hap1,hA1⟩:=QN hA X (by have:=hgo.2;omega)
       rw [List.append_assoc, ← QR] at hA1
       rw [hXc] at hap1
       have hm2:0<m2:=by
        have:=hgo.2
        simp only [List.length_append,List.length_replicate] at this
        omega
       have hkn2:k+1≤(-xn).toNat:=by have:=hgo.1;omega
       clear hgo
       generalize ((A++List.replicate k X).length:Int)=Q at hle hN
       repeat' first|refine Jc (hIv _) ?_|refine Js ?_|refine JA ?_|refine Ji ?_|(apply qLe;rfl;rfl;rfl;assumption;exact IsV.any _)|refine Jx ?_|refine Jt ?_|refine Jo ?_|fail
       exact LoopI.go (m2-1) (by omega) ⟨k+1,_,o1,lv1,nt1,by omega,hkn2,hA1,Zf ⟨rfl,rfl,rfl,Ze (Zd (n:=k+1) (by omega)),trivial⟩,rfl⟩
     · have hend : A ++ List.replicate k X = (A ++ List.replicate (-xn).toNat X).take 9 := Zgq hkn (by omega) (by
         simp only [List.length_append,List.length_replicate] at hgo
         omega)
       rw [hend,hfin] at hA
       have hcase:(decide ((k:Int)<IntKind.i64.wrap (0-xn))&&decide (((A++List.replicate k X).length:Int)<9))=false:=by
        rw [hw,Bool.and_eq_false_iff,decide_eq_false_iff_not,decide_eq_false_iff_not]
        simp only [List.length_append,List.length_replicate] at hgo ⊢
        omega
       generalize ((A++List.replicate k X).length:Int)=Q at hle hN hcase
       generalize decide ((k:Int)<IntKind.i64.wrap (0-xn))=c1 at hL hcase
       generalize decide (Q<9)=c2 at hN hcase
       cases c1<;>cases c2<;>first|(exact absurd hcase (by decide))|skip
       all_goals
        repeat' first|refine Jk ?_|refine Ji ?_|(apply qLe;rfl;rfl;rfl;assumption;exact IsV.any _)|refine Jx ?_|refine Jt ?_|refine Jo ?_|fail
        exact LoopI.go (m-1) (by omega) ⟨i+1,_,out2,lv2,nt2,by omega,hA,Zf ⟨rfl,rfl,Ze (Zd (n:=i+1) (by omega)),trivial⟩,rfl⟩
   · have e : i = l.length := by omega
     subst e
     have hlx:=Zq (l.length:Int) ((pwL l).length:Int)
     rw [decide_eq_false (by rw [hpl];omega)] at hlx
     rw [List.take_length] at hA
     have hA:ApV true 4 (Za ((Vh l).take 9)) out lv nt:=hA
     repeat' first|refine Ji ?_|refine Jl ?_|refine Jo ?_|fail
     exact hA.frz3 _ _
