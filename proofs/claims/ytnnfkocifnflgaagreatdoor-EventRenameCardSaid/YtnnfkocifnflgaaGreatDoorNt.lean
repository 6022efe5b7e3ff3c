/-
  Sums in the second text: the summands of a term, the term of some summands.
-/
import Derived.Test.YtnnfkocifnflgaaGreatDoorNo
set_option maxHeartbeats 0
set_option maxRecDepth 100000
namespace Go.Vm
theorem Qz {l:List Tm} {i:Nat} {t:Tm} (h:l[i]? = some t):Y3 (l.drop i)=if t.valid≠0 then t.valid else Y3 (l.drop (i+1)):=by
 rw [ZL h];rfl
theorem Vu (a b:List Tm):Zl (a++b)=Zl a+Zl b:=by
 induction a with
 |nil=>simp [Zl]
 |cons x r ih=>simp only [List.cons_append,Zl,ih];omega
theorem VX:∀ a b:List Tm,Zl (ZZ a b)≤Zl a+Zl b
 | [],b=>by rw [ZZ,Zl];omega
 |x::a,[]=>by rw [ZZ];omega
 | x :: a, y :: b => by
   have h1:=VX a (y::b)
   have h2:=VX (x::a) b
   have h3:=VX a b
   rw [ZZ]
   simp only [Zl] at *
   split
   · rw [Zl];omega
   · split
     · rw [Zl];omega
     · omega
termination_by a b=>a.length+b.length
mutual
theorem Zhv:∀ t:Tm,Zl t.sumP≤t.size
 | .mk k nm s b kz => by
   rw [Tm.sumP,Tm.size]
   split
   · simp only [Zl];omega
   · split
     · have := VG kz []
       simp only [Zl] at this
       omega
     · simp only [Zl,Tm.size];omega
theorem VG:∀ l o:List Tm,Zl (ZI l o)≤Zl o+Zl l
 | [],o=>by rw [ZI];omega
 | t :: r, o => by
   have h1:=VG r (ZZ o t.sumP)
   have h2:=VX o t.sumP
   have h3:=Zhv t
   rw [ZI,Zl]
   omega
end
end Go.Vm
namespace Go.Vm.Seat
open Go.Proofs
theorem Zak (b:Bool) (el:List (List PV)):slV b 4 el= .nils∨∃ el',slV b 4 el= .sl .none 4 el':=by
 cases el with
 | nil => cases b with
   | true=>exact .inl (Zk 4)
   | false=>exact .inr ⟨[],Zq 4⟩
 |cons x r=>exact .inr ⟨x::r,Zp _ _ _ _⟩
theorem bs2 (b c:Bool) (l m:List (List PV)):ZQ E0 167 2 [(0,slV b 4 l),(1,slV c 4 m)]=some (1,[[slV b 4 l],[slV c 4 m]]):=by
 rcases Zak b l with e|⟨el,e⟩<;>rcases Zak c m with e'|⟨el',e'⟩<;>rw [e,e']<;>rfl
theorem Zpn (b:Bool) (l:List (List PV)):ZQ E0 167 2 [(0,slV b 4 l),(1,.nils)]=some (1,[[slV b 4 l],[.nils]]):=by
 have:=bs2 b true l []
 rwa [show slV true 4 ([]:List (List PV))= .nils from Zk 4] at this
theorem Zpf {l:List Tm} (hl:SmL l) (hlen:l.length≤1000000) (b:Bool):∀ H,CallOk E0 Tryz.prog 110 [slV b 4 (Za l),.nils] H (.int .i64 (if 200<l.length then 3 else Y3 l)) H:=by
 have hcat:=ZnC (a:=l) (b:=[]) (by simpa using hlen) b true
 rw [List.append_nil] at hcat
 have hcat:∀ H,CallOk E0 Tryz.prog 118 [.sl .full 1 [[slV b 4 (Za l)],[.nils]]] H (slV true 4 (Za l)) H:=fun H=>by
  have:=hcat H
  rw [show slV true 4 (Za [])= .nils from Zk 4] at this
  exact ZV this rfl
 have hV:∀ t,t∈l→∀ H,CallOk E0 Tryz.prog 39 [.agg t.cells] H (.int .i64 t.valid) H:=fun t ht=>c39 (hl t ht).1 (by have:=(hl t ht).2;omega)
 refine Jw tOk fe110.ok rfl ?_
 by_cases h2:200<l.length
 · rw [if_pos h2]
   repeat' first|refine Jc (hcat _) ?_|refine Js ?_|refine Ji ?_|refine JJ ?_|refine Jl ?_|refine Jx ?_|refine Jt ?_|refine Jb ?_ ?_|(apply qT (ty:=0);rfl;rfl;rfl)|(apply qF (ty:=0);rfl;rfl;rfl)|refine Jz ?_ ?_|refine Jo ?_|intro hb
   all_goals first
    | rfl
    | (exfalso;rw [Zb] at hb;simp only [decide_eq_false_iff_not] at hb;omega)
 · rw [if_neg h2]
   repeat' first|refine Jc (hcat _) ?_|refine Js ?_|refine Ji ?_|refine JJ ?_|refine Jl ?_|refine Jx ?_|refine Jt ?_|refine Jb ?_ ?_|(apply qT (ty:=0);rfl;rfl;rfl)|(apply qF (ty:=0);rfl;rfl;rfl)|refine Jz ?_ ?_|refine Jo ?_|intro hb
   · exfalso;rw [Zb] at hb;simp only [decide_eq_true_eq] at hb;omega
   apply qBs
   · rfl
   · rfl
   · rfl
   · exact Zpn b (Za l)
   · exact IsLL.n
   · simp only [Yc,Uq,Yq];rfl
   repeat' first|refine Jc (hcat _) ?_|refine Js ?_|refine Ji ?_|refine JJ ?_|refine Jl ?_|refine Jx ?_|refine Jt ?_|refine Jb ?_ ?_|(apply qT (ty:=0);rfl;rfl;rfl)|(apply qF (ty:=0);rfl;rfl;rfl)|refine Jz ?_ ?_|refine Jo ?_|intro hb
   refine Wp.while (fun m tm H => ∃ (i : Nat) (base : TM), i + m = l.length ∧ Y3 l = Y3 (l.drop i) ∧
     tm=ovr base [(14,slV true 4 (Za l)),(15,.int .i64 (l.length:Int)),(16,.int .i64 (i:Int))]∧H=hNil)
    (fun m tm H hI=>Wp.drop ?_) l.length _ _ ⟨0,_,by omega,by rw [List.drop_zero],Zf ⟨rfl,Ze (by rw [Zb]),rfl,trivial⟩,rfl⟩
   obtain ⟨i,base,hi,hgo,rfl,rfl⟩:=hI
   rw [hgo]
   clear hb
   by_cases hlt:i<l.length
   · obtain ⟨t, ht⟩ : ∃ t, l[i]? = some t := ⟨l[i], by simp⟩
     have hc:=hV t (List.mem_of_getElem? ht)
     have hd:=Qz ht
     generalize t.valid=v at hc hd
     obtain ⟨k',nm',s',f',kz'⟩:=t
     have hj:=Zh ht
     simp only [Tm.cells] at hc
     by_cases hv:v=0
     · subst hv
       rw [if_neg (by simp)] at hd
       repeat' first|refine Jc (hc _) ?_|refine Js ?_|refine Ji ?_|refine JJ ?_|refine Jl ?_|refine Jx ?_|refine Jt ?_|refine Jb ?_ ?_|(apply qT (ty:=0);rfl;rfl;rfl)|(apply qF (ty:=0);rfl;rfl;rfl)|refine Jz ?_ ?_|refine Jo ?_|intro hb
       all_goals first
        | (exfalso;simp at hb<;>omega)
        | exact DropQ.go [(14, slV true 4 (Za l)), (15, .int .i64 (l.length : Int)), (16, .int .i64 ((i + 1 : Nat) : Int))] ⟨rfl, rfl, Ze (Zc (n := i + 1) (by omega)), trivial⟩
            (by simp [Zj,under]) rfl rfl (LoopI.go (m-1) (by omega) ⟨i+1,_,by omega,by rw [hd],rfl,rfl⟩)
     · rw [if_pos hv] at hd
       repeat' first|refine Jc (hc _) ?_|refine Js ?_|refine Ji ?_|refine JJ ?_|refine Jl ?_|refine Jx ?_|refine Jt ?_|refine Jb ?_ ?_|(apply qT (ty:=0);rfl;rfl;rfl)|(apply qF (ty:=0);rfl;rfl;rfl)|refine Jz ?_ ?_|refine Jo ?_|intro hb
       all_goals first
        | (exfalso;simp at hb<;>omega)
        | (exfalso;simp_all;done)
        | rw [hd]
   · have e : i = l.length := by omega
     subst e
     repeat' first|refine Js ?_|refine Ji ?_|refine JJ ?_|refine Jl ?_|refine Jx ?_|refine Jt ?_|refine Jb ?_ ?_|(apply qT (ty:=0);rfl;rfl;rfl)|(apply qF (ty:=0);rfl;rfl;rfl)|refine Jz ?_ ?_|refine Jo ?_|intro hb
     · exfalso;simp at hb
     · rw [List.drop_length]
       rfl
end Go.Vm.Seat
namespace Go.Vm
theorem Zg0 (m:Bool) (l:List Tm):sumG m l=if (if 200<l.length then 3 else Y3 l)≠0 then (.zero,if 200<l.length then 3 else Y3 l) else if (sumT m (Zcm m (ZI l []))).valid≠0 then (.zero,3) else (sumT m (Zcm m (ZI l [])),0):=by
 unfold sumG
 by_cases h:200<l.length
 · rw [if_pos h,if_pos h,if_pos (by decide)]
 · rw [if_neg h,if_neg h]
theorem Zga {l:List Tm} {f:Bool} (h:∀ x,x∈l→x.Ok) (hl:l.length≤1000000):(sumT f l).Ok:=cls_ok.sumT h hl
theorem Zbh (f:Bool) (l:List Tm):(sumT f l).size≤1+Zl l:=by
 match l with
 | []=>simp [sumT,Tm.size,Zl]
 | [x]=>simp only [sumT,Zl];omega
 |x::y::r=>simp only [sumT,Tm.size];omega
end Go.Vm
namespace Go.Vm.Seat
open Go.Proofs
theorem Zm:Tm.zero.cells=zcT:=by
 show [PV.int .i64 0,.str [],.int .i64 0,slV true 4 (Za [])]=_
 rw [show slV true 4 (Za [])= .nils from Zk 4]
 rfl
theorem Z6 (m:Nat) (H:Heap) (e:Int):frz3 m H (.tup [.agg zcT,.int .i64 e])=some (.tup [.agg zcT,.int .i64 e]):=rfl
theorem c67 {l:List Tm} (hl:SmL l) (hs:Zl l≤100000) (b:Bool):∀ H,CallOk E0 Tryz.prog 67 [slV b 4 (Za l)] H (.tup [.agg (sumG true l).1.cells,.int .i64 (sumG true l).2]) H:=by
 have hlen:=Ya l
 have hR:=Zpf hl (by omega) b
 rw [Zg0]
 generalize (if 200<l.length then (3:Int) else Y3 l)=R at hR ⊢
 by_cases hR0:R≠0
 · rw [if_pos hR0]
   simp only [Zm]
   refine Jw tOk fe67.ok (Z6 _ _ _) ?_
   repeat' first|refine Jc (hR _) ?_|refine Ji ?_|refine JJ ?_|refine Jl ?_|refine Jx ?_|refine Jt ?_|refine Jb ?_ ?_|(apply qT (ty:=0);rfl;rfl;rfl)|(apply qF (ty:=0);rfl;rfl;rfl)|refine Jz ?_ ?_|refine Jo ?_|intro hb
   all_goals first
    | rfl
    | (exfalso;simp_all;done)
 · have hR0 : R = 0 := Classical.not_not.1 hR0
   subst hR0
   rw [if_neg (by simp)]
   have hP:SmL (ZI l []):=hl.sumL
   have hPs:=VG l []
   have hPl:=YU l []
   simp only [Zl,List.length_nil,Nat.zero_add] at hPs hPl
   have hown:∀ H,CallOk E0 Tryz.prog 113 [slV true 4 (Za (ZI l []))] H (slV false 4 (Za (Zcm true (ZI l [])))) H:=Zop (Zl (ZI l [])+1) hP (by omega) (by omega) true
   have hQl:(Zcm true (ZI l [])).length≤1000000:=by rw [Zd0];omega
   have hV:∀ H,CallOk E0 Tryz.prog 39 [.agg (sumT true (Zcm true (ZI l []))).cells] H (.int .i64 (sumT true (Zcm true (ZI l []))).valid) H:=c39 (Zga (Ze2 cls_ok true _ fun x hx=>(hP x hx).1) hQl) (by
    have:=Zbh true (Zcm true (ZI l []))
    have e:Zl (Zcm true (ZI l []))=Zl (ZI l []):=Vq _
    omega)
   generalize hQ:Zcm true (ZI l [])=Q at hown hV hQl ⊢
   obtain ⟨v,hv⟩:∃ v,v=(sumT true Q).valid:=⟨_,rfl⟩
   rw [← hv] at hV ⊢
   clear hv
   obtain ⟨U,e,hUe,hU1,hU2⟩:∃ (U:Tm) (e:Int),(if v≠0 then (Tm.zero,(3:Int)) else (sumT true Q,0))=(U,e)∧(v≠0→U= .zero∧e=3)∧(v=0→U=sumT true Q∧e=0):=by
    by_cases h:v≠0
    · exact ⟨_,_,by rw [if_pos h],fun _=>⟨rfl,rfl⟩,fun h'=>absurd h' h⟩
    · exact ⟨_,_,by rw [if_neg h],fun h'=>absurd h' h,fun _=>⟨rfl,rfl⟩⟩
   rw [hUe]
   show ∀ H,CallOk E0 Tryz.prog 67 _ H (.tup [.agg U.cells,.int .i64 e]) H
   have hfr:=Zx 0 hNil U e
   refine Jw tOk fe67.ok hfr ?_
   repeat' first|refine Jc (hR _) ?_|refine Ji ?_|refine JJ ?_|refine Jl ?_|refine Jx ?_|refine Jt ?_|refine Jb ?_ ?_|(apply qT (ty:=0);rfl;rfl;rfl)|(apply qF (ty:=0);rfl;rfl;rfl)|refine Jz ?_ ?_|refine Jo ?_|intro hb
   refine Wp.while (fun m tm H => ∃ (i : Nat) (base : TM), i + m = l.length ∧
     tm=ovr base [(2,.ptr 0 4 0 0),(5,slV true 4 (Za (ZI (l.take i) []))),(15,slV b 4 (Za l)),(16,.int .i64 (l.length:Int)),(17,.int .i64 (i:Int))]∧H=⟨[.cells 4 [zcT]],0,[],0⟩)
    (fun m tm H hI=>Wp.drop ?_) l.length _ _ ⟨0,_,by omega,Zf ⟨rfl,(by simp only [List.take_zero,ZI,Za,Zk];rfl),rfl,Ze (by rw [Zb]),rfl,trivial⟩,rfl⟩
   obtain ⟨i,base,hi,rfl,rfl⟩:=hI
   clear hR
   have h1:=YU (l.take i) []
   have h2:=ZE l i
   simp only [List.length_nil] at h1
   by_cases hlt:i<l.length
   · obtain ⟨t', ht'⟩ : ∃ t', l[i]? = some t' := ⟨l[i], by simp⟩
     have hm:t'∈l:=List.mem_of_getElem? ht'
     have hle:=ZJ hm
     have hsn:=XQ [] ht'
     have h3:=VB t'
     have hc:=ZpL (hl t' hm).1 (hl t' hm).2
     have hp:=ZnM (hl.take i).sumL (SmL.sum (hl t' hm).1 (hl t' hm).2) (by omega) true true
     rw [← hsn] at hp
     clear hV hown hfr hQ hPs hPl hQl hU1 hU2 hUe
     obtain ⟨k',nm',s',b',kz'⟩:=t'
     have hj:=Zh ht'
     simp only [Tm.cells] at hc
     repeat' first|refine Jc (hc _) ?_|refine Jc (hp _) ?_|refine Ji ?_|refine JJ ?_|refine Jl ?_|refine Jx ?_|refine Jt ?_|refine Jb ?_ ?_|(apply qT (ty:=0);rfl;rfl;rfl)|(apply qF (ty:=0);rfl;rfl;rfl)|refine Jz ?_ ?_|refine Jo ?_|intro hb
     all_goals first
      | (exfalso;simp at hb<;>omega)
      | exact DropQ.go [(2, .ptr 0 4 0 0), (5, slV true 4 (Za (ZI (l.take (i + 1)) []))), (15, slV b 4 (Za l)), (16, .int .i64 (l.length : Int)), (17, .int .i64 ((i + 1 : Nat) : Int))] ⟨rfl, rfl, rfl, rfl, Ze (Zc (n := i + 1) (by omega)), trivial⟩
          (by simp [Zj,under]) rfl (by simp [Yb,zcT,ZA,under]) (LoopI.go (m-1) (by omega) ⟨i+1,_,by omega,rfl,rfl⟩)
   · have e : i = l.length := by omega
     subst e
     rw [List.take_length]
     clear hi hlt h1 h2 hPs hPl hP hl hs hlen hQ
     clear hfr hUe
     match Q,hown,hV,hU2 with
     | [], hown, hV, hU2 =>
       simp only [sumT,Tm.cells,Za,Zk,Zq] at hown hV hU2 ⊢
       by_cases hv:v≠0
       · obtain ⟨rfl, rfl⟩ := hU1 hv
         repeat' first|refine Jc (hown _) ?_|refine Jc (hV _) ?_|refine Ji ?_|refine JJ ?_|refine Jl ?_|refine Jx ?_|refine Jt ?_|refine Jb ?_ ?_|(apply qT (ty:=0);rfl;rfl;rfl)|(apply qF (ty:=0);rfl;rfl;rfl)|refine Jz ?_ ?_|refine Jo ?_|intro hb
         all_goals first
          | (exfalso;simp at hb;done)
          | (exfalso;simp_all;done)
          | (simp only [Zm];rfl)
       · obtain ⟨rfl, rfl⟩ := hU2 (Classical.not_not.1 hv)
         repeat' first|refine Jc (hown _) ?_|refine Jc (hV _) ?_|refine Ji ?_|refine JJ ?_|refine Jl ?_|refine Jx ?_|refine Jt ?_|refine Jb ?_ ?_|(apply qT (ty:=0);rfl;rfl;rfl)|(apply qF (ty:=0);rfl;rfl;rfl)|refine Jz ?_ ?_|refine Jo ?_|intro hb
         all_goals first
          | (exfalso;simp at hb;done)
          | (exfalso;simp_all;done)
          | (simp only [Tm.cells,Za,Zk];rfl)
     | [x], hown, hV, hU2 =>
       simp only [sumT] at hV hU2
       simp only [Za,Zp] at hown
       have hfx:=fun m H=>Zx m H x 0
       by_cases hv:v≠0
       · obtain ⟨rfl, rfl⟩ := hU1 hv
         obtain ⟨k',nm',s',b',kz'⟩:=x
         simp only [Tm.cells] at hown hV
         repeat' first|refine Jc (hown _) ?_|refine Jc (hV _) ?_|refine Ji ?_|refine JJ ?_|refine Jl ?_|refine Jx ?_|refine Jt ?_|refine Jb ?_ ?_|(apply qT (ty:=0);rfl;rfl;rfl)|(apply qF (ty:=0);rfl;rfl;rfl)|refine Jz ?_ ?_|refine Jo ?_|intro hb
         all_goals first
          | (exfalso;simp at hb;done)
          | (exfalso;simp_all;done)
          | (simp only [Zm];rfl)
       · obtain ⟨rfl, rfl⟩ := hU2 (Classical.not_not.1 hv)
         obtain ⟨k',nm',s',b',kz'⟩:=U
         simp only [Tm.cells] at hown hV hfx ⊢
         repeat' first|refine Jc (hown _) ?_|refine Jc (hV _) ?_|refine Ji ?_|refine JJ ?_|refine Jl ?_|refine Jx ?_|refine Jt ?_|refine Jb ?_ ?_|(apply qT (ty:=0);rfl;rfl;rfl)|(apply qF (ty:=0);rfl;rfl;rfl)|refine Jz ?_ ?_|refine Jo ?_|intro hb
         all_goals first
          | (exfalso;simp at hb;done)
          | (exfalso;simp_all;done)
          | exact hfx _ _
     | x :: y :: r, hown, hV, hU2 =>
       simp only [sumT,Tm.cells] at hV hU2
       have e2:slV false 4 (Za (x::y::r))= .sl .none 4 (x.cells::y.cells::Za r):=Zp _ _ _ _
       rw [e2] at hown hV
       have hx1:Xs E0 .eql 3 (.int .i64 (Int.ofNat (x.cells::y.cells::Za r).length)) (.int .i64 0)=some (.bool false):=by
        show some (PV.bool (decide (_=_)))=_
        rw [decide_eq_false (by simp;omega)]
       have hx2:Xs E0 .eql 3 (.int .i64 (Int.ofNat (x.cells::y.cells::Za r).length)) (.int .i64 1)=some (.bool false):=by
        show some (PV.bool (decide (_=_)))=_
        rw [decide_eq_false (by simp;omega)]
       by_cases hv:v≠0
       · obtain ⟨rfl, rfl⟩ := hU1 hv
         repeat' first|refine Jc (hown _) ?_|refine Jc (hV _) ?_|refine Ji ?_|refine JJ ?_|refine Jl ?_|refine Jx ?_|refine Jt ?_|refine Jb ?_ ?_|(apply qT (ty:=0);rfl;rfl;rfl)|(apply qF (ty:=0);rfl;rfl;rfl)|refine Jz ?_ ?_|refine Jo ?_|intro hb
         all_goals first
          | (exfalso;simp at hb;done)
          | (exfalso;simp_all;done)
          | (simp only [Zm];rfl)
       · obtain ⟨rfl, rfl⟩ := hU2 (Classical.not_not.1 hv)
         repeat' first|refine Jc (hown _) ?_|refine Jc (hV _) ?_|refine Ji ?_|refine JJ ?_|refine Jl ?_|refine Jx ?_|refine Jt ?_|refine Jb ?_ ?_|(apply qT (ty:=0);rfl;rfl;rfl)|(apply qF (ty:=0);rfl;rfl;rfl)|refine Jz ?_ ?_|refine Jo ?_|intro hb
         all_goals first
          | (exfalso;simp at hb;done)
          | (exfalso;simp_all;done)
          | (simp only [Tm.cells,e2];rfl)
end Go.Vm.Seat
namespace Go.Vm
def flX (kz:List Tm):Bool:=match kz.getLast? with
 |none=>true
 |some u=> !u.sumP.isEmpty
def Tm.sumFl:Tm→Bool
 | .mk k nm _ _ kz=>if k=3∧nm=WE∧kz= [] then true else if k=3∧nm=Q1 then flX kz else true
theorem Zds {l:List Tm} {i:Nat} {t:Tm} (h:l[i]? = some t):flX (l.take (i+1))= !t.sumP.isEmpty:=by
 have e:l.take (i+1)=l.take i++ [t]:=by rw [List.take_add_one,h];rfl
 unfold flX
 rw [e]
 simp
end Go.Vm
namespace Go.Vm.Seat
variable {t:Tm}
open Go.Proofs
theorem Zkq {a:List Tm} (ha:SmL a) (hA:Asc a) (ht:t.Ok∧t.size≤100000) (hl:a.length+t.sumP.length≤100000) (ba bb:Bool):∀ H,CallOk E0 Tryz.prog 128 [slV ba 4 (Za a),slV bb 4 (Za t.sumP)] H (slV (!t.sumP.isEmpty) 4 (Za (ZZ a t.sumP))) H:=by
 have:=ZnZ ha (SmL.sum ht.1 ht.2) hl ba bb
 rwa [U4 _ _ hA (ZaH t)] at this
theorem Zoa (ht:t.Ok):t.size≤100000→∀ H,CallOk E0 Tryz.prog 129 [.agg t.cells] H (slV t.sumFl 4 (Za t.sumP)) H:=by
 induction ht with
 | @mk k nm s b kz hk hs hn hl hok ih=>
 intro hsz
 simp only [Tm.size] at hsz
 refine Vv (own:=fun _=>false) tOk fe129.ok (by simp [ZP,frzG,Tm.cells,Xv]) (Zv _ _ _ _ _) ?_
 by_cases hx:k=3∧nm=Q1
 · obtain ⟨rfl, rfl⟩ := hx
   rw [Tm.sumP,if_neg (fun h=>absurd h.2.1 (by decide)),if_pos ⟨rfl,rfl⟩,Tm.sumFl,if_neg (fun h=>absurd h.2.1 (by decide)),if_pos ⟨rfl,rfl⟩]
   simp only [Tm.cells,Q1]
   have hkl:=Ya kz
   have hkid:SmL kz:=fun t ht=>⟨hok t ht,by have:=ZJ ht;omega⟩
   refine Wp.seq ?_
   repeat' first|refine Jk ?_|refine Js ?_|refine Ji ?_|refine JJ ?_|refine Jl ?_|refine Jx ?_|refine Jt ?_|refine Jb ?_ ?_|refine Jo ?_|intro hb
   refine Wp.while (fun m tm H => ∃ (i : Nat) (base : TM), i + m = kz.length ∧
     tm=ovr base [(1,.ptr 0 4 0 0),(3,slV (flX (kz.take i)) 4 (Za (ZI (kz.take i) []))),(4,.int .i64 (i:Int))]∧H=⟨[.cells 4 [[.int .i64 3,.str [120,111,114],.int .i64 s,slV b 4 (Za kz)]]],0,[],0⟩)
    (fun m tm H hI=>?_) kz.length _ _ ⟨0,_,by omega,Zf ⟨rfl,(by rw [List.take_zero];simp only [ZI,Za,flX,List.getLast?_nil,Zk];rfl),rfl,trivial⟩,rfl⟩
   obtain ⟨i,base,hi,rfl,rfl⟩:=hI
   have h1:=YU (kz.take i) []
   have h2:=ZE kz i
   simp only [List.length_nil] at h1
   by_cases hlt:i<kz.length
   · obtain ⟨t', ht'⟩ : ∃ t', kz[i]? = some t' := ⟨kz[i], by simp⟩
     have hm:t'∈kz:=List.mem_of_getElem? ht'
     have hle:=ZJ hm
     have hsn:=XQ [] ht'
     have hfl:=Zds ht'
     have h3:=VB t'
     have h4:=ZE kz (i+1)
     have h5:Zl (kz.take (i+1))=Zl (kz.take i)+t'.size:=by
      rw [List.take_add_one,ht',Vu]
      simp [Zl]
     have hc:=ih t' hm (by omega)
     have hp:=Zkq (hkid.take i).sumL (UQ (kz.take i) [] trivial) (hkid t' hm) (by omega) (flX (kz.take i)) t'.sumFl
     rw [← hsn, ← hfl] at hp
     obtain ⟨k',nm',s',b',kz'⟩:=t'
     have hj:=Zh ht'
     simp only [Tm.cells] at hc
     clear ih
     repeat' first|refine Jk ?_|refine Jc (hc _) ?_|refine Jc (hp _) ?_|refine Js ?_|refine Ji ?_|refine JJ ?_|refine Jl ?_|refine Jx ?_|refine Jt ?_|refine Jb ?_ ?_|refine Jo ?_|intro hb
     all_goals first
      | (exfalso;simp at hb;done)
      | (exfalso;simp only [Zb,decide_eq_false_iff_not] at hb;omega)
      | exact LoopI.go (m-1) (by omega) ⟨i+1,_,by omega,Zf ⟨rfl,rfl,Ze (Zc (n:=i+1) (by omega)),trivial⟩,rfl⟩
   · have e : i = kz.length := by omega
     subst e
     clear ih
     repeat' first|refine Jk ?_|refine Js ?_|refine Ji ?_|refine JJ ?_|refine Jl ?_|refine Jx ?_|refine Jt ?_|refine Jb ?_ ?_|refine Jo ?_|intro hb
     · exfalso;rw [Zb] at hb;simp at hb
     · rw [List.take_length]
       exact Zv _ _ _ _ _
 · rw [Tm.sumP, Tm.sumFl]
   by_cases hz:k=3∧nm=WE∧kz= []
   · obtain ⟨rfl, rfl, rfl⟩ := hz
     rw [if_pos ⟨rfl,rfl,rfl⟩,if_pos ⟨rfl,rfl,rfl⟩]
     simp only [Tm.cells,WE]
     refine Wp.seq ?_
     cases b
     all_goals
      repeat' first|refine Jk ?_|refine Js ?_|refine Ji ?_|refine JJ ?_|refine Jl ?_|refine Jx ?_|refine Jt ?_|refine Jb ?_ ?_|refine Jo ?_|intro hb
      simp only [Za,Zk]
      rfl
   · rw [if_neg hz, if_neg hx, if_neg hz, if_neg hx]
     have e:slV true 4 (Za [.mk k nm s b kz])= .sl .none 4 [[.int .i64 k,.str nm,.int .i64 s,slV b 4 (Za kz)]]:=Zp _ _ _ _
     rw [e]
     simp only [Tm.cells]
     refine Wp.seq ?_
     clear ih
     repeat' first|refine Jk ?_|refine Js ?_|refine Ji ?_|refine JJ ?_|refine Jl ?_|refine Jx ?_|refine Jt ?_|refine Jb ?_ ?_|refine Jo ?_|intro hb
     all_goals first
      | rfl
      | (exfalso;simp_all [Q1,WE,Zb])
theorem Zox:∀ H,CallOk E0 Tryz.prog 127 [] H (.agg (Tm.mk 3 WE 0 false []).cells) H:=by
 have ha:=c76 WE (l:=[]) (by decide) true
 simp only [Tm.cells,Za,Zk,Zq,WE] at ha ⊢
 refine Jw tOk fe127.ok rfl ?_
 repeat' first|refine Jc (ha _) ?_|refine Jo ?_|intro hb
 all_goals rfl
theorem ZnY {l:List Tm} (hlen:l.length≤1000000) (b:Bool):∀ H,CallOk E0 Tryz.prog 130 [slV b 4 (Za l)] H (.agg (sumT false l).cells) H:=by
 have ha:=c76 WE (l:=[]) (by decide) true
 match l,hlen with
 | [], _ =>
   simp only [sumT,Tm.cells,Za,Zk,Zq,WE] at ha ⊢
   cases b<;>simp only [Zk,Zq]
   all_goals
    refine Jw tOk fe130.ok rfl ?_
    repeat' first|refine Jc (ha _) ?_|refine Js ?_|refine JA ?_|refine JJ ?_|refine Jl ?_|refine Jx ?_|refine Jt ?_|refine Jb ?_ ?_|refine Jo ?_|intro hb
    all_goals rfl
 | [x], _ =>
   obtain ⟨k',nm',s',b',kz'⟩:=x
   simp only [sumT,Za,Zp,Tm.cells]
   refine Jw tOk fe130.ok (ZS _ _ _ _ _ _ _) ?_
   repeat' first|refine Jc (ha _) ?_|refine Js ?_|refine JA ?_|refine JJ ?_|refine Jl ?_|refine Jx ?_|refine Jt ?_|refine Jb ?_ ?_|refine Jo ?_|intro hb
   all_goals exact ZS _ _ _ _ _ _ _
 | x :: y :: r, hlen =>
   have hA0:ApV false 4 [] (.sl .full 4 []) [] 0:= .full [] _ _ rfl rfl
   obtain ⟨out',lv',nt',hap,hA', -⟩:=hA0.app YX (.slV b 4 (Za (x::y::r))) (Zr _) (ZX (by simp only [Zb,List.length_nil];omega) (by decide)) (ZU _)
   rw [List.nil_append] at hA'
   have hco:=Qt hA' 3 Q1 0
   have hfr:=fun m H=>ZgV hA' m H 3 Q1 0
   have hlE:(Za (x::y::r)).length=r.length+2:=by rw [Zb];rfl
   have hc1:Xs E0 .eql 3 (.int .i64 ((Za (x::y::r)).length:Int)) (.int .i64 0)=some (.bool false):=by
    show some (PV.bool (decide (_=_)))=_
    rw [decide_eq_false (by rw [hlE];omega)]
   have hc2:Xs E0 .eql 3 (.int .i64 ((Za (x::y::r)).length:Int)) (.int .i64 1)=some (.bool false):=by
    show some (PV.bool (decide (_=_)))=_
    rw [decide_eq_false (by rw [hlE];omega)]
   simp only [sumT,Tm.cells]
   generalize Za (x::y::r)=L at hap hA' hco hfr hlE hc1 hc2 ⊢
   obtain ⟨tl,rfl⟩:=Zei hA'
   simp only [Q1] at hco hfr ⊢
   refine Jw tOk fe130.ok (ZS _ _ _ _ _ _ _) ?_
   repeat' first|refine Jc (ha _) ?_|refine Js ?_|refine JA ?_|refine Ji ?_|refine JJ ?_|refine Jl ?_|refine Jx ?_|refine Jt ?_|refine Jo ?_|(apply Wp.cond;rfl)|intro hb
   all_goals exact hfr _ _
