/-
  Sums in the second text: the summands of a term, the term of some summands.
-/
import Derived.Test.YtfiflgphoepgeaaGreatDoorNn
set_option maxHeartbeats 0
set_option maxRecDepth 100000
namespace Go.Vm.Seat
open Go.Proofs
theorem ZmY {l:List Tm} {t:Tm} (hl:SmL l) (ht:t.Ok∧t.size≤100000):SmL (Q7 l t):=fun x hx=>by
 unfold Q7 at hx
 split at hx
 · exact hl x (List.mem_filter.1 hx).1
 · rcases ZeS hx with h | h
   · exact hl x h
   · rw [h];exact ht
theorem Zj6 (l:List Tm) (t:Tm):(Q7 l t).length≤l.length+1:=by
 unfold Q7
 split
 · exact Nat.le_succ_of_le (List.length_filter_le _ _)
 · exact Zem l t
theorem Zeu:∀ (b a:List Tm),SmL a→SmL b→SmL (QL a b)
 | [],_,ha,_=>ha
 |t::r,a,ha,hb=>Zeu r (Q7 a t) (ZmY ha hb.head) hb.tail
theorem Zce:∀ (b a:List Tm),(QL a b).length≤a.length+b.length
 | [],_=>Nat.le_refl _
 | t :: r, a => by
   have h1:=Zce r (Q7 a t)
   have h2:=Zj6 a t
   rw [List.length_cons]
   exact Nat.le_trans h1 (by omega)
theorem Zf0 {b:List Tm} {i:Nat} {x:Tm} (a:List Tm) (h:b[i]? = some x):QL a (b.take (i+1))=Q7 (QL a (b.take i)) x:=XA h
theorem ZsZ {a b:List Tm} (ha:SmL a) (hb':SmL b) (hl:a.length+b.length≤100000) (ba bb:Bool):∀ H,CallOk E0 Tryz.prog 184 [slV ba 4 (Za a),slV bb 4 (Za b)] H (slV (!b.isEmpty) 4 (Za (QL a b))) H:=by
 have hA0:ApV false 4 [] (.sl .full 4 []) [] 0:= .full [] _ _ rfl rfl
 obtain ⟨out',lv',nt',hap,hA', -⟩:=hA0.app YZ (.slV ba 4 (Za a)) (Zs _) (ZS (by simp only [Zb,List.length_nil];omega) (by decide)) (ZW _)
 rw [List.nil_append] at hA'
 obtain ⟨tl,rfl⟩:=Ze6 hA'
 refine Jw tOk fe184.ok (Zw _ _ _ _ _) ?_
 repeat' first|refine Js ?_|refine JA ?_|refine Jo ?_|fail
 refine Wp.while (fun m tm H => ∃ (i : Nat) (base : TM) (V : PV), i + m = b.length ∧ (i = 0 ∧ V = .sl tl 4 (Za a) ∨ 0 < i ∧ V = slV true 4 (Za (QL a (b.take i)))) ∧
   tm=ovr base [(5,V),(1,slV bb 4 (Za b)),(6,.int .i64 (i:Int))]∧H=⟨[],0,lv',nt'⟩)
  (fun m tm H hI=>?_) b.length _ _ ⟨0,_,_,by omega,.inl ⟨rfl,rfl⟩,Zf ⟨rfl,rfl,rfl,trivial⟩,rfl⟩
 obtain ⟨i,base,V,hi,hV,rfl,rfl⟩:=hI
 by_cases hlt:i<b.length
 · obtain ⟨x, hx⟩ : ∃ x, b[i]? = some x := ⟨b[i], by simp⟩
   have hxs:=hb' x (List.mem_of_getElem? hx)
   have hsn:=Zf0 a hx
   have h1:=Zce (b.take i) a
   rw [List.length_take] at h1
   have hct:∀ H,CallOk E0 Tryz.prog 209 [V,.agg x.cells] H (slV true 4 (Za (QL a (b.take (i+1))))) H:=by
    rw [hsn]
    rcases hV with ⟨h0,rfl⟩|⟨_,rfl⟩
    · intro H
      have:=ZrB (l:=a) ha hxs (by omega) false H
      rw [h0,List.take_zero,show QL a []=a from rfl]
      obtain ⟨k',nm',s',f',kz'⟩:=x
      simp only [Tm.cells,Z3] at this ⊢
      exact Zr this (by simp only [ZM,frzG,UU,YI];rfl)
    · exact ZrB (Zeu _ _ ha fun t ht=>hb' t (List.mem_of_mem_take ht)) hxs (by omega) true
   obtain ⟨k',nm',s',f',kz'⟩:=x
   have hj:=Zk hx
   simp only [Tm.cells] at hct
   repeat' first|refine Jc (hct _) ?_|refine Jl ?_|refine Jx ?_|refine Jb ?_ ?_|refine Jo ?_|intro hb
   all_goals first
    | (exfalso;simp at hb;done)
    | (exfalso;simp only [Zb,decide_eq_false_iff_not] at hb;omega)
    | exact LoopI.go (m-1) (by omega) ⟨i+1,_,_,by omega,.inr ⟨by omega,rfl⟩,Zf ⟨rfl,rfl,Zd (Zc (n:=i+1) (by omega)),trivial⟩,rfl⟩
 · have e : i = b.length := by omega
   subst e
   repeat' first|refine Jl ?_|refine Jb ?_ ?_|refine Jo ?_|intro hb
   · exfalso;rw [Zb] at hb;simp at hb
   · rcases hV with ⟨h0, rfl⟩ | ⟨h0, rfl⟩
     · have e0 := List.length_eq_zero_iff.1 h0
       subst e0
       show _=some (slV false 4 (Za a))
       rw [Z3]
       rfl
     · rw [List.take_length]
       cases b with
       | nil=>exact absurd h0 (by simp)
       | cons y r=>exact Zw _ _ _ _ _
end Go.Vm.Seat
namespace Go.Vm
theorem QJ {l:List Tm} {i:Nat} {t:Tm} (h:l[i]? = some t):Xe (l.drop i)=if t.valid≠0 then t.valid else Xe (l.drop (i+1)):=by
 rw [ZC h];rfl
theorem VI (a b:List Tm):Zl (a++b)=Zl a+Zl b:=by
 induction a with
 |nil=>simp [Zl]
 |cons x r ih=>simp only [List.cons_append,Zl,ih];omega
theorem Uh:∀ a b:List Tm,Zl (Z2 a b)≤Zl a+Zl b
 | [],b=>by rw [Z2,Zl];omega
 |x::a,[]=>by rw [Z2];omega
 | x :: a, y :: b => by
   have h1:=Uh a (y::b)
   have h2:=Uh (x::a) b
   have h3:=Uh a b
   rw [Z2]
   simp only [Zl] at *
   split
   · rw [Zl];omega
   · split
     · rw [Zl];omega
     · omega
termination_by a b=>a.length+b.length
mutual
theorem Zj2:∀ t:Tm,Zl t.sumP≤t.size
 | .mk k nm s b kz => by
   rw [Tm.sumP,Tm.size]
   split
   · simp only [Zl];omega
   · split
     · have := Uc kz []
       simp only [Zl] at this
       omega
     · simp only [Zl,Tm.size];omega
theorem Uc:∀ l o:List Tm,Zl (ZK l o)≤Zl o+Zl l
 | [],o=>by rw [ZK];omega
 | t :: r, o => by
   have h1:=Uc r (Z2 o t.sumP)
   have h2:=Uh o t.sumP
   have h3:=Zj2 t
   rw [ZK,Zl]
   omega
end
end Go.Vm
namespace Go.Vm.Seat
open Go.Proofs
theorem ZaK (b:Bool) (el:List (List PV)):slV b 4 el= .nils∨∃ el',slV b 4 el= .sl .none 4 el':=by
 cases el with
 | nil => cases b with
   | true=>exact .inl (Zh 4)
   | false=>exact .inr ⟨[],Zq 4⟩
 |cons x r=>exact .inr ⟨x::r,Zm _ _ _ _⟩
theorem bs2 (b c:Bool) (l m:List (List PV)):ZT E0 173 2 [(0,slV b 4 l),(1,slV c 4 m)]=some (1,[[slV b 4 l],[slV c 4 m]]):=by
 rcases ZaK b l with e|⟨el,e⟩<;>rcases ZaK c m with e'|⟨el',e'⟩<;>rw [e,e']<;>rfl
theorem ZtC (b:Bool) (l:List (List PV)):ZT E0 173 2 [(0,slV b 4 l),(1,.nils)]=some (1,[[slV b 4 l],[.nils]]):=by
 have:=bs2 b true l []
 rwa [show slV true 4 ([]:List (List PV))= .nils from Zh 4] at this
theorem Zsi {l:List Tm} (hl:SmL l) (hlen:l.length≤1000000) (b:Bool):∀ H,CallOk E0 Tryz.prog 115 [slV b 4 (Za l),.nils] H (.int .i64 (if 200<l.length then 3 else Xe l)) H:=by
 have hcat:=Zre (a:=l) (b:=[]) (by simpa using hlen) b true
 rw [List.append_nil] at hcat
 have hcat:∀ H,CallOk E0 Tryz.prog 123 [.sl .full 1 [[slV b 4 (Za l)],[.nils]]] H (slV true 4 (Za l)) H:=fun H=>by
  have:=hcat H
  rw [show slV true 4 (Za [])= .nils from Zh 4] at this
  exact Zr this rfl
 have hV:∀ t,t∈l→∀ H,CallOk E0 Tryz.prog 41 [.agg t.cells] H (.int .i64 t.valid) H:=fun t ht=>c41 (hl t ht).1 (by have:=(hl t ht).2;omega)
 refine Jw tOk fe115.ok rfl ?_
 by_cases h2:200<l.length
 · rw [if_pos h2]
   repeat' first|refine Jl ?_|refine Jb ?_ ?_|refine Jo ?_|intro hb
   all_goals first
    | rfl
    | (exfalso;rw [Zb] at hb;simp only [decide_eq_false_iff_not] at hb;omega)
 · rw [if_neg h2]
   repeat' first|refine Jl ?_|refine Jb ?_ ?_|refine Jo ?_|intro hb
   · exfalso;rw [Zb] at hb;simp only [decide_eq_true_eq] at hb;omega
   apply qBs
   · rfl
   · rfl
   · rfl
   · exact ZtC b (Za l)
   · exact IsLL.n
   · simp only [ZX,UU,YI];rfl
   repeat' first|refine Jc (hcat _) ?_|refine Jl ?_|refine Jo ?_|fail
   refine Wp.while (fun m tm H => ∃ (i : Nat) (base : TM), i + m = l.length ∧ Xe l = Xe (l.drop i) ∧
     tm=ovr base [(14,slV true 4 (Za l)),(15,.int .i64 (l.length:Int)),(16,.int .i64 (i:Int))]∧H=hNil)
    (fun m tm H hI=>Wp.drop ?_) l.length _ _ ⟨0,_,by omega,by rw [List.drop_zero],Zf ⟨rfl,Zd (by rw [Zb]),rfl,trivial⟩,rfl⟩
   obtain ⟨i,base,hi,hgo,rfl,rfl⟩:=hI
   rw [hgo]
   clear hb
   by_cases hlt:i<l.length
   · obtain ⟨t, ht⟩ : ∃ t, l[i]? = some t := ⟨l[i], by simp⟩
     have hc:=hV t (List.mem_of_getElem? ht)
     have hd:=QJ ht
     generalize t.valid=v at hc hd
     obtain ⟨k',nm',s',f',kz'⟩:=t
     have hj:=Zk ht
     simp only [Tm.cells] at hc
     by_cases hv:v=0
     · subst hv
       rw [if_neg (by simp)] at hd
       repeat' first|refine Jc (hc _) ?_|refine Jx ?_|refine Jt ?_|refine Jz ?_ ?_|refine Jo ?_|intro hb
       all_goals first
        | (exfalso;simp at hb<;>omega)
        | exact DropQ.go [(14, slV true 4 (Za l)), (15, .int .i64 (l.length : Int)), (16, .int .i64 ((i + 1 : Nat) : Int))] ⟨rfl, rfl, Zd (Zc (n := i + 1) (by omega)), trivial⟩
            (by simp [Zg,under]) rfl rfl (LoopI.go (m-1) (by omega) ⟨i+1,_,by omega,by rw [hd],rfl,rfl⟩)
     · rw [if_pos hv] at hd
       repeat' first|refine Jc (hc _) ?_|refine Jx ?_|refine Jb ?_ ?_|refine Jz ?_ ?_|refine Jo ?_|intro hb
       all_goals first
        | (exfalso;simp at hb<;>omega)
        | (exfalso;simp_all;done)
        | rw [hd]
   · have e : i = l.length := by omega
     subst e
     repeat' first|refine Jz ?_ ?_|refine Jo ?_|intro hb
     · exfalso;simp at hb
     · rw [List.drop_length]
       rfl
end Go.Vm.Seat
namespace Go.Vm
theorem ZgJ (m:Bool) (l:List Tm):sumG m l=if (if 200<l.length then 3 else Xe l)≠0 then (.zero,if 200<l.length then 3 else Xe l) else if (sumT m (Zdm m (ZK l []))).valid≠0 then (.zero,3) else (sumT m (Zdm m (ZK l [])),0):=by
 unfold sumG
 by_cases h:200<l.length
 · rw [if_pos h,if_pos h,if_pos (by decide)]
 · rw [if_neg h,if_neg h]
theorem ZgI {l:List Tm} {f:Bool} (h:∀ x,x∈l→x.Ok) (hl:l.length≤1000000):(sumT f l).Ok:=cls_ok.sumT h hl
theorem ZcC (f:Bool) (l:List Tm):(sumT f l).size≤1+Zl l:=by
 match l with
 | []=>simp [sumT,Tm.size,Zl]
 | [x]=>simp only [sumT,Zl];omega
 |x::y::r=>simp only [sumT,Tm.size];omega
end Go.Vm
namespace Go.Vm.Seat
open Go.Proofs
theorem Zn:Tm.zero.cells=zcT:=by
 show [PV.int .i64 0,.str [],.int .i64 0,slV true 4 (Za [])]=_
 rw [show slV true 4 (Za [])= .nils from Zh 4]
 rfl
theorem Yc (m:Nat) (H:Heap) (e:Int):frz3 m H (.tup [.agg zcT,.int .i64 e])=some (.tup [.agg zcT,.int .i64 e]):=rfl
theorem c73 {l:List Tm} (hl:SmL l) (hs:Zl l≤100000) (b:Bool):∀ H,CallOk E0 Tryz.prog 73 [slV b 4 (Za l)] H (.tup [.agg (sumG true l).1.cells,.int .i64 (sumG true l).2]) H:=by
 have hlen:=Yj l
 have hR:=Zsi hl (by omega) b
 rw [ZgJ]
 generalize (if 200<l.length then (3:Int) else Xe l)=R at hR ⊢
 by_cases hR0:R≠0
 · rw [if_pos hR0]
   simp only [Zn]
   refine Jw tOk fe73.ok (Yc _ _ _) ?_
   repeat' first|refine Jc (hR _) ?_|refine Jl ?_|refine Jb ?_ ?_|refine Jo ?_|intro hb
   all_goals first
    | rfl
    | (exfalso;simp_all;done)
 · have hR0 : R = 0 := Classical.not_not.1 hR0
   subst hR0
   rw [if_neg (by simp)]
   have hP:SmL (ZK l []):=hl.sumL
   have hPs:=Uc l []
   have hPl:=Y6 l []
   simp only [Zl,List.length_nil,Nat.zero_add] at hPs hPl
   have hown:∀ H,CallOk E0 Tryz.prog 118 [slV true 4 (Za (ZK l []))] H (slV false 4 (Za (Zdm true (ZK l [])))) H:=ZsE (Zl (ZK l [])+1) hP (by omega) (by omega) true
   have hQl:(Zdm true (ZK l [])).length≤1000000:=by rw [ZfI];omega
   have hV:∀ H,CallOk E0 Tryz.prog 41 [.agg (sumT true (Zdm true (ZK l []))).cells] H (.int .i64 (sumT true (Zdm true (ZK l []))).valid) H:=c41 (ZgI (Zhd cls_ok true _ fun x hx=>(hP x hx).1) hQl) (by
    have:=ZcC true (Zdm true (ZK l []))
    have e:Zl (Zdm true (ZK l []))=Zl (ZK l []):=VN _
    omega)
   generalize hQ:Zdm true (ZK l [])=Q at hown hV hQl ⊢
   obtain ⟨v,hv⟩:∃ v,v=(sumT true Q).valid:=⟨_,rfl⟩
   rw [← hv] at hV ⊢
   clear hv
   obtain ⟨U,e,hUe,hU1,hU2⟩:∃ (U:Tm) (e:Int),(if v≠0 then (Tm.zero,(3:Int)) else (sumT true Q,0))=(U,e)∧(v≠0→U= .zero∧e=3)∧(v=0→U=sumT true Q∧e=0):=by
    by_cases h:v≠0
    · exact ⟨_,_,by rw [if_pos h],fun _=>⟨rfl,rfl⟩,fun h'=>absurd h' h⟩
    · exact ⟨_,_,by rw [if_neg h],fun h'=>absurd h' h,fun _=>⟨rfl,rfl⟩⟩
   rw [hUe]
   show ∀ H,CallOk E0 Tryz.prog 73 _ H (.tup [.agg U.cells,.int .i64 e]) H
   have hfr:=ZE 0 hNil U e
   refine Jw tOk fe73.ok hfr ?_
   repeat' first|refine Jc (hR _) ?_|refine Jl ?_|refine Jt ?_|refine Jo ?_|fail
   refine Wp.while (fun m tm H => ∃ (i : Nat) (base : TM), i + m = l.length ∧
     tm=ovr base [(2,.ptr 0 4 0 0),(5,slV true 4 (Za (ZK (l.take i) []))),(15,slV b 4 (Za l)),(16,.int .i64 (l.length:Int)),(17,.int .i64 (i:Int))]∧H=⟨[.cells 4 [zcT]],0,[],0⟩)
    (fun m tm H hI=>Wp.drop ?_) l.length _ _ ⟨0,_,by omega,Zf ⟨rfl,(by simp only [List.take_zero,ZK,Za,Zh];rfl),rfl,Zd (by rw [Zb]),rfl,trivial⟩,rfl⟩
   obtain ⟨i,base,hi,rfl,rfl⟩:=hI
   clear hR
   have h1:=Y6 (l.take i) []
   have h2:=ZD l i
   simp only [List.length_nil] at h1
   by_cases hlt:i<l.length
   · obtain ⟨t', ht'⟩ : ∃ t', l[i]? = some t' := ⟨l[i], by simp⟩
     have hm:t'∈l:=List.mem_of_getElem? ht'
     have hle:=ZR hm
     have hsn:=XZ [] ht'
     have h3:=VZ t'
     have hc:=ZrR (hl t' hm).1 (hl t' hm).2
     have hp:=Zry (hl.take i).sumL (SmL.sum (hl t' hm).1 (hl t' hm).2) (by omega) true true
     rw [← hsn] at hp
     clear hV hown hfr hQ hPs hPl hQl hU1 hU2 hUe
     obtain ⟨k',nm',s',b',kz'⟩:=t'
     have hj:=Zk ht'
     simp only [Tm.cells] at hc
     repeat' first|refine Jc (hc _) ?_|refine Jc (hp _) ?_|refine Jx ?_|refine Jz ?_ ?_|refine Jo ?_|intro hb
     all_goals first
      | (exfalso;simp at hb<;>omega)
      | exact DropQ.go [(2, .ptr 0 4 0 0), (5, slV true 4 (Za (ZK (l.take (i + 1)) []))), (15, slV b 4 (Za l)), (16, .int .i64 (l.length : Int)), (17, .int .i64 ((i + 1 : Nat) : Int))] ⟨rfl, rfl, rfl, rfl, Zd (Zc (n := i + 1) (by omega)), trivial⟩
          (by simp [Zg,under]) rfl (by simp [Yq,zcT,ZL,under]) (LoopI.go (m-1) (by omega) ⟨i+1,_,by omega,rfl,rfl⟩)
   · have e : i = l.length := by omega
     subst e
     rw [List.take_length]
     clear hi hlt h1 h2 hPs hPl hP hl hs hlen hQ
     clear hfr hUe
     match Q,hown,hV,hU2 with
     | [], hown, hV, hU2 =>
       simp only [sumT,Tm.cells,Za,Zh,Zq] at hown hV hU2 ⊢
       by_cases hv:v≠0
       · obtain ⟨rfl, rfl⟩ := hU1 hv
         repeat' first|refine Jc (hown _) ?_|refine Jc (hV _) ?_|refine Jt ?_|refine Jb ?_ ?_|refine Jz ?_ ?_|refine Jo ?_|intro hb
         all_goals first
          | (exfalso;simp at hb;done)
          | (exfalso;simp_all;done)
          | (simp only [Zn];rfl)
       · obtain ⟨rfl, rfl⟩ := hU2 (Classical.not_not.1 hv)
         repeat' first|refine Jc (hown _) ?_|refine Jc (hV _) ?_|refine Jt ?_|refine Jb ?_ ?_|refine Jz ?_ ?_|refine Jo ?_|intro hb
         all_goals first
          | (exfalso;simp at hb;done)
          | (exfalso;simp_all;done)
          | (simp only [Tm.cells,Za,Zh];rfl)
     | [x], hown, hV, hU2 =>
       simp only [sumT] at hV hU2
       simp only [Za,Zm] at hown
       have hfx:=fun m H=>ZE m H x 0
       by_cases hv:v≠0
       · obtain ⟨rfl, rfl⟩ := hU1 hv
         obtain ⟨k',nm',s',b',kz'⟩:=x
         simp only [Tm.cells] at hown hV
         repeat' first|refine Jc (hown _) ?_|refine Jc (hV _) ?_|refine Jt ?_|refine Jb ?_ ?_|refine Jz ?_ ?_|refine Jo ?_|intro hb
         all_goals first
          | (exfalso;simp at hb;done)
          | (exfalso;simp_all;done)
          | (simp only [Zn];rfl)
       · obtain ⟨rfl, rfl⟩ := hU2 (Classical.not_not.1 hv)
         obtain ⟨k',nm',s',b',kz'⟩:=U
         simp only [Tm.cells] at hown hV hfx ⊢
         repeat' first|refine Jc (hown _) ?_|refine Jc (hV _) ?_|refine Jt ?_|refine Jb ?_ ?_|refine Jz ?_ ?_|refine Jo ?_|intro hb
         all_goals first
          | (exfalso;simp at hb;done)
          | (exfalso;simp_all;done)
          | exact hfx _ _
     | x :: y :: r, hown, hV, hU2 =>
       simp only [sumT,Tm.cells] at hV hU2
       have e2:slV false 4 (Za (x::y::r))= .sl .none 4 (x.cells::y.cells::Za r):=Zm _ _ _ _
       rw [e2] at hown hV
       have hx1:Y2 E0 .eql 3 (.int .i64 (Int.ofNat (x.cells::y.cells::Za r).length)) (.int .i64 0)=some (.bool false):=by
        show some (PV.bool (decide (_=_)))=_
        rw [decide_eq_false (by simp;omega)]
       have hx2:Y2 E0 .eql 3 (.int .i64 (Int.ofNat (x.cells::y.cells::Za r).length)) (.int .i64 1)=some (.bool false):=by
        show some (PV.bool (decide (_=_)))=_
        rw [decide_eq_false (by simp;omega)]
       by_cases hv:v≠0
       · obtain ⟨rfl, rfl⟩ := hU1 hv
         repeat' first|refine Jc (hown _) ?_|refine Jc (hV _) ?_|refine Ji ?_|refine Jt ?_|refine Jb ?_ ?_|refine Jz ?_ ?_|refine Jo ?_|intro hb
         all_goals first
          | (exfalso;simp at hb;done)
          | (exfalso;simp_all;done)
          | (simp only [Zn];rfl)
       · obtain ⟨rfl, rfl⟩ := hU2 (Classical.not_not.1 hv)
         repeat' first|refine Jc (hown _) ?_|refine Jc (hV _) ?_|refine Ji ?_|refine Jt ?_|refine Jb ?_ ?_|refine Jz ?_ ?_|refine Jo ?_|intro hb
         all_goals first
          | (exfalso;simp at hb;done)
          | (exfalso;simp_all;done)
          | (simp only [Tm.cells,e2];rfl)
end Go.Vm.Seat
namespace Go.Vm
def flX (kz:List Tm):Bool:=match kz.getLast? with
 |none=>true
 |some u=> !u.sumP.isEmpty
def Tm.sumFl:Tm→Bool
 | .mk k nm _ _ kz=>if k=3∧nm=WK∧kz= [] then true else if k=3∧nm=Zai then flX kz else true
theorem Zfi {l:List Tm} {i:Nat} {t:Tm} (h:l[i]? = some t):flX (l.take (i+1))= !t.sumP.isEmpty:=by
 have e:l.take (i+1)=l.take i++ [t]:=by rw [List.take_add_one,h];rfl
 unfold flX
 rw [e]
 simp
end Go.Vm
namespace Go.Vm.Seat
variable {t:Tm}
open Go.Proofs
theorem ZnN {a:List Tm} (ha:SmL a) (hA:Asc a) (ht:t.Ok∧t.size≤100000) (hl:a.length+t.sumP.length≤100000) (ba bb:Bool):∀ H,CallOk E0 Tryz.prog 184 [slV ba 4 (Za a),slV bb 4 (Za t.sumP)] H (slV (!t.sumP.isEmpty) 4 (Za (Z2 a t.sumP))) H:=by
 have:=ZsZ ha (SmL.sum ht.1 ht.2) hl ba bb
 rwa [QV _ _ hA (Zbm t)] at this
theorem ZsA (ht:t.Ok):t.size≤100000→∀ H,CallOk E0 Tryz.prog 185 [.agg t.cells] H (slV t.sumFl 4 (Za t.sumP)) H:=by
 induction ht with
 | @mk k nm s b kz hk hs hn hl hok ih=>
 intro hsz
 simp only [Tm.size] at hsz
 refine X3 (own:=fun _=>false) tOk fe185.ok (by simp [ZM,frzG,Tm.cells,Xr]) (Zw _ _ _ _ _) ?_
 by_cases hx:k=3∧nm=Zai
 · obtain ⟨rfl, rfl⟩ := hx
   rw [Tm.sumP,if_neg (fun h=>absurd h.2.1 (by decide)),if_pos ⟨rfl,rfl⟩,Tm.sumFl,if_neg (fun h=>absurd h.2.1 (by decide)),if_pos ⟨rfl,rfl⟩]
   simp only [Tm.cells,Zai]
   have hkl:=Yj kz
   have hkid:SmL kz:=fun t ht=>⟨hok t ht,by have:=ZR ht;omega⟩
   refine Wp.seq ?_
   repeat' first|refine Jk ?_|refine Jt ?_|refine Jo ?_|fail
   refine Wp.while (fun m tm H => ∃ (i : Nat) (base : TM), i + m = kz.length ∧
     tm=ovr base [(1,.ptr 0 4 0 0),(3,slV (flX (kz.take i)) 4 (Za (ZK (kz.take i) []))),(4,.int .i64 (i:Int))]∧H=⟨[.cells 4 [[.int .i64 3,.str [120,111,114],.int .i64 s,slV b 4 (Za kz)]]],0,[],0⟩)
    (fun m tm H hI=>?_) kz.length _ _ ⟨0,_,by omega,Zf ⟨rfl,(by rw [List.take_zero];simp only [ZK,Za,flX,List.getLast?_nil,Zh];rfl),rfl,trivial⟩,rfl⟩
   obtain ⟨i,base,hi,rfl,rfl⟩:=hI
   have h1:=Y6 (kz.take i) []
   have h2:=ZD kz i
   simp only [List.length_nil] at h1
   by_cases hlt:i<kz.length
   · obtain ⟨t', ht'⟩ : ∃ t', kz[i]? = some t' := ⟨kz[i], by simp⟩
     have hm:t'∈kz:=List.mem_of_getElem? ht'
     have hle:=ZR hm
     have hsn:=XZ [] ht'
     have hfl:=Zfi ht'
     have h3:=VZ t'
     have h4:=ZD kz (i+1)
     have h5:Zl (kz.take (i+1))=Zl (kz.take i)+t'.size:=by
      rw [List.take_add_one,ht',VI]
      simp [Zl]
     have hc:=ih t' hm (by omega)
     have hp:=ZnN (hkid.take i).sumL (U8 (kz.take i) [] trivial) (hkid t' hm) (by omega) (flX (kz.take i)) t'.sumFl
     rw [← hsn, ← hfl] at hp
     obtain ⟨k',nm',s',b',kz'⟩:=t'
     have hj:=Zk ht'
     simp only [Tm.cells] at hc
     clear ih
     repeat' first|refine Jc (hc _) ?_|refine Jc (hp _) ?_|refine Jl ?_|refine Jx ?_|refine Jb ?_ ?_|refine Jo ?_|intro hb
     all_goals first
      | (exfalso;simp at hb;done)
      | (exfalso;simp only [Zb,decide_eq_false_iff_not] at hb;omega)
      | exact LoopI.go (m-1) (by omega) ⟨i+1,_,by omega,Zf ⟨rfl,rfl,Zd (Zc (n:=i+1) (by omega)),trivial⟩,rfl⟩
   · have e : i = kz.length := by omega
     subst e
     clear ih
     repeat' first|refine Jl ?_|refine Jb ?_ ?_|refine Jo ?_|intro hb
     · exfalso;rw [Zb] at hb;simp at hb
     · rw [List.take_length]
       exact Zw _ _ _ _ _
 · rw [Tm.sumP, Tm.sumFl]
   by_cases hz:k=3∧nm=WK∧kz= []
   · obtain ⟨rfl, rfl, rfl⟩ := hz
     rw [if_pos ⟨rfl,rfl,rfl⟩,if_pos ⟨rfl,rfl,rfl⟩]
     simp only [Tm.cells,WK]
     refine Wp.seq ?_
     cases b
     all_goals
      repeat' first|refine Jl ?_|refine Jt ?_|refine Jo ?_|fail
      simp only [Za,Zh]
      rfl
   · rw [if_neg hz, if_neg hx, if_neg hz, if_neg hx]
     have e:slV true 4 (Za [.mk k nm s b kz])= .sl .none 4 [[.int .i64 k,.str nm,.int .i64 s,slV b 4 (Za kz)]]:=Zm _ _ _ _
     rw [e]
     simp only [Tm.cells]
     refine Wp.seq ?_
     clear ih
     repeat' first|refine Jk ?_|refine Js ?_|refine Jl ?_|refine Jt ?_|refine Jb ?_ ?_|refine Jo ?_|intro hb
     all_goals first
      | rfl
      | (exfalso;simp_all [Zai,WK,Zb])
theorem Zti:∀ H,CallOk E0 Tryz.prog 183 [] H (.agg (Tm.mk 3 WK 0 false []).cells) H:=by
 have ha:=Zlt WK (l:=[]) (by decide) true
 simp only [Tm.cells,Za,Zh,Zq,WK] at ha ⊢
 refine Jw tOk fe183.ok rfl ?_
 repeat' first|refine Jc (ha _) ?_|refine Jo ?_|fail
 all_goals rfl
theorem Ztg {l:List Tm} (hlen:l.length≤1000000) (b:Bool):∀ H,CallOk E0 Tryz.prog 186 [slV b 4 (Za l)] H (.agg (sumT false l).cells) H:=by
 have ha:=Zlt WK (l:=[]) (by decide) true
 match l,hlen with
 | [], _ =>
   simp only [sumT,Tm.cells,Za,Zh,Zq,WK] at ha ⊢
   cases b<;>simp only [Zh,Zq]
   all_goals
    refine Jw tOk fe186.ok rfl ?_
    repeat' first|refine Jc (ha _) ?_|refine Jt ?_|refine Jo ?_|fail
    all_goals rfl
 | [x], _ =>
   obtain ⟨k',nm',s',b',kz'⟩:=x
   simp only [sumT,Za,Zm,Tm.cells]
   refine Jw tOk fe186.ok (ZN _ _ _ _ _ _ _) ?_
   repeat' first|refine Jt ?_|refine Jo ?_|fail
   all_goals exact ZN _ _ _ _ _ _ _
 | x :: y :: r, hlen =>
   have hA0:ApV false 4 [] (.sl .full 4 []) [] 0:= .full [] _ _ rfl rfl
   obtain ⟨out',lv',nt',hap,hA', -⟩:=hA0.app YZ (.slV b 4 (Za (x::y::r))) (Zs _) (ZS (by simp only [Zb,List.length_nil];omega) (by decide)) (ZW _)
   rw [List.nil_append] at hA'
   have hco:=Qt hA' 3 Zai 0
   have hfr:=fun m H=>ZiZ hA' m H 3 Zai 0
   have hlE:(Za (x::y::r)).length=r.length+2:=by rw [Zb];rfl
   have hc1:Y2 E0 .eql 3 (.int .i64 ((Za (x::y::r)).length:Int)) (.int .i64 0)=some (.bool false):=by
    show some (PV.bool (decide (_=_)))=_
    rw [decide_eq_false (by rw [hlE];omega)]
   have hc2:Y2 E0 .eql 3 (.int .i64 ((Za (x::y::r)).length:Int)) (.int .i64 1)=some (.bool false):=by
    show some (PV.bool (decide (_=_)))=_
    rw [decide_eq_false (by rw [hlE];omega)]
   simp only [sumT,Tm.cells]
   generalize Za (x::y::r)=L at hap hA' hco hfr hlE hc1 hc2 ⊢
   obtain ⟨tl,rfl⟩:=Ze6 hA'
   simp only [Zai] at hco hfr ⊢
   refine Jw tOk fe186.ok (ZN _ _ _ _ _ _ _) ?_
   repeat' first|refine Js ?_|refine JA ?_|refine Ji ?_|refine Jl ?_|refine Jo ?_|fail
   all_goals exact hfr _ _
