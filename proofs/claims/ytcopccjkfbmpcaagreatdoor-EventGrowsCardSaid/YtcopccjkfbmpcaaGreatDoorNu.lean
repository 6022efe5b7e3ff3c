/-
  Sums in the second text: the error of a list, the sum of a list.
-/
import Derived.Test.YtcopccjkfbmpcaaGreatDoorNr
set_option maxHeartbeats 0
set_option maxRecDepth 100000
namespace Go.Vm
theorem Zig (m:Bool) (l:List Tm):sumG m l=if (if 200<l.length then 3 else Xu l)≠0 then (.zero,if 200<l.length then 3 else Xu l) else if (sumT m (Zey m (ZY l []))).valid≠0 then (.zero,3) else (sumT m (Zey m (ZY l [])),0):=by
 unfold sumG
 by_cases h:200<l.length
 · rw [if_pos h,if_pos h,if_pos (by decide)]
 · rw [if_neg h,if_neg h]
theorem ZiW {l:List Tm} {f:Bool} (h:∀ x,x∈l→x.Ok) (hl:l.length≤1000000):(sumT f l).Ok:=cls_ok.sumT h hl
theorem Zeo (f:Bool) (l:List Tm):(sumT f l).size≤1+Zl l:=by
 match l with
 | []=>simp [sumT,Tm.size,Zl]
 | [x]=>simp only [sumT,Zl];omega
 |x::y::r=>simp only [sumT,Tm.size];omega
end Go.Vm
namespace Go.Vm.Seat
open Go.Proofs
theorem Zr:Tm.zero.cells=zcT:=by
 show [PV.int .i64 0,.str [],.int .i64 0,slV true 4 (Za [])]=_
 rw [show slV true 4 (Za [])= .nils from Zg 4]
 rfl
theorem Yl (m:Nat) (H:Heap) (e:Int):frz3 m H (.tup [.agg zcT,.int .i64 e])=some (.tup [.agg zcT,.int .i64 e]):=rfl
theorem ZvF {l:List Tm} (hl:SmL l) (hs:Zl l≤100000) (b:Bool):∀ H,CallOk E0 Tryz.prog 207 [slV b 4 (Za l)] H (.tup [.agg (sumG true l).1.cells,.int .i64 (sumG true l).2]) H:=by
 have hlen:=Yy l
 have hR:=Zvj hl (by omega) b
 rw [Zig]
 generalize (if 200<l.length then (3:Int) else Xu l)=R at hR ⊢
 by_cases hR0:R≠0
 · rw [if_pos hR0]
   simp only [Zr]
   refine Jw tOk fe207.ok (Yl _ _ _) ?_
   repeat' first|refine Jc (hR _) ?_|refine Jl ?_|refine Jb ?_ ?_|refine Jo ?_|intro hb
   all_goals first
    | rfl
    | (exfalso;simp_all;done)
 · have hR0 : R = 0 := Classical.not_not.1 hR0
   subst hR0
   rw [if_neg (by simp)]
   have hP:SmL (ZY l []):=hl.sumL
   have hPs:=UA l []
   have hPl:=Xn l []
   simp only [Zl,List.length_nil,Nat.zero_add] at hPs hPl
   have hown:∀ H,CallOk E0 Tryz.prog 217 [slV true 4 (Za (ZY l []))] H (slV false 4 (Za (Zey true (ZY l [])))) H:=ZuY (Zl (ZY l [])+1) hP (by omega) (by omega) true
   have hQl:(Zey true (ZY l [])).length≤1000000:=by rw [ZgU];omega
   have hV:∀ H,CallOk E0 Tryz.prog 46 [.agg (sumT true (Zey true (ZY l []))).cells] H (.int .i64 (sumT true (Zey true (ZY l []))).valid) H:=c46 (ZiW (Ziq cls_ok true _ fun x hx=>(hP x hx).1) hQl) (by
    have:=Zeo true (Zey true (ZY l []))
    have e:Zl (Zey true (ZY l []))=Zl (ZY l []):=UD _
    omega)
   generalize hQ:Zey true (ZY l [])=Q at hown hV hQl ⊢
   obtain ⟨v,hv⟩:∃ v,v=(sumT true Q).valid:=⟨_,rfl⟩
   rw [← hv] at hV ⊢
   clear hv
   obtain ⟨U,e,hUe,hU1,hU2⟩:∃ (U:Tm) (e:Int),(if v≠0 then (Tm.zero,(3:Int)) else (sumT true Q,0))=(U,e)∧(v≠0→U= .zero∧e=3)∧(v=0→U=sumT true Q∧e=0):=by
    by_cases h:v≠0
    · exact ⟨_,_,by rw [if_pos h],fun _=>⟨rfl,rfl⟩,fun h'=>absurd h' h⟩
    · exact ⟨_,_,by rw [if_neg h],fun h'=>absurd h' h,fun _=>⟨rfl,rfl⟩⟩
   rw [hUe]
   show ∀ H,CallOk E0 Tryz.prog 207 _ H (.tup [.agg U.cells,.int .i64 e]) H
   have hfr:=ZU 0 hNil U e
   refine Jw tOk fe207.ok hfr ?_
   repeat' first|refine Jc (hR _) ?_|refine Jl ?_|refine Jt ?_|refine Jo ?_|fail
   refine Wp.while (fun m tm H => ∃ (i : Nat) (base : TM), i + m = l.length ∧
     tm=ovr base [(2,.ptr 0 4 0 0),(5,slV true 4 (Za (ZY (l.take i) []))),(15,slV b 4 (Za l)),(16,.int .i64 (l.length:Int)),(17,.int .i64 (i:Int))]∧H=⟨[.cells 4 [zcT]],0,[],0⟩)
    (fun m tm H hI=>Wp.drop ?_) l.length _ _ ⟨0,_,by omega,Zf ⟨rfl,(by simp only [List.take_zero,ZY,Za,Zg];rfl),rfl,Ze (by rw [Zb]),rfl,trivial⟩,rfl⟩
   obtain ⟨i,base,hi,rfl,rfl⟩:=hI
   clear hR
   have h1:=Xn (l.take i) []
   have h2:=ZL l i
   simp only [List.length_nil] at h1
   by_cases hlt:i<l.length
   · obtain ⟨t', ht'⟩ : ∃ t', l[i]? = some t' := ⟨l[i], by simp⟩
     have hm:t'∈l:=List.mem_of_getElem? ht'
     have hle:=Z7 hm
     have hsn:=WL [] ht'
     have h3:=UN t'
     have hc:=Zu3 (hl t' hm).1 (hl t' hm).2
     have hp:=Zui (hl.take i).sumL (SmL.sum (hl t' hm).1 (hl t' hm).2) (by omega) true true
     rw [← hsn] at hp
     clear hV hown hfr hQ hPs hPl hQl hU1 hU2 hUe
     obtain ⟨k',nm',s',b',kz'⟩:=t'
     have hj:=Zk ht'
     simp only [Tm.cells] at hc
     repeat' first|refine Jc (hc _) ?_|refine Jc (hp _) ?_|refine Jx ?_|refine Jz ?_ ?_|refine Jo ?_|intro hb
     all_goals first
      | (exfalso;simp at hb<;>omega)
      | exact DropQ.go [(2, .ptr 0 4 0 0), (5, slV true 4 (Za (ZY (l.take (i + 1)) []))), (15, slV b 4 (Za l)), (16, .int .i64 (l.length : Int)), (17, .int .i64 ((i + 1 : Nat) : Int))] ⟨rfl, rfl, rfl, rfl, Ze (Zd (n := i + 1) (by omega)), trivial⟩
          (by simp [Zh,under]) rfl (by simp [YJ,zcT,ZM,under]) (LoopI.go (m-1) (by omega) ⟨i+1,_,by omega,rfl,rfl⟩)
   · have e : i = l.length := by omega
     subst e
     rw [List.take_length]
     clear hi hlt h1 h2 hPs hPl hP hl hs hlen hQ
     clear hfr hUe
     match Q,hown,hV,hU2 with
     | [], hown, hV, hU2 =>
       simp only [sumT,Tm.cells,Za,Zg,ZC] at hown hV hU2 ⊢
       by_cases hv:v≠0
       · obtain ⟨rfl, rfl⟩ := hU1 hv
         repeat' first|refine Jc (hown _) ?_|refine Jc (hV _) ?_|refine Jt ?_|refine Jb ?_ ?_|refine Jz ?_ ?_|refine Jo ?_|intro hb
         all_goals first
          | (exfalso;simp at hb;done)
          | (exfalso;simp_all;done)
          | (simp only [Zr];rfl)
       · obtain ⟨rfl, rfl⟩ := hU2 (Classical.not_not.1 hv)
         repeat' first|refine Jc (hown _) ?_|refine Jc (hV _) ?_|refine Jt ?_|refine Jb ?_ ?_|refine Jz ?_ ?_|refine Jo ?_|intro hb
         all_goals first
          | (exfalso;simp at hb;done)
          | (exfalso;simp_all;done)
          | (simp only [Tm.cells,Za,Zg];rfl)
     | [x], hown, hV, hU2 =>
       simp only [sumT] at hV hU2
       simp only [Za,Zm] at hown
       have hfx:=fun m H=>ZU m H x 0
       by_cases hv:v≠0
       · obtain ⟨rfl, rfl⟩ := hU1 hv
         obtain ⟨k',nm',s',b',kz'⟩:=x
         simp only [Tm.cells] at hown hV
         repeat' first|refine Jc (hown _) ?_|refine Jc (hV _) ?_|refine Jt ?_|refine Jb ?_ ?_|refine Jz ?_ ?_|refine Jo ?_|intro hb
         all_goals first
          | (exfalso;simp at hb;done)
          | (exfalso;simp_all;done)
          | (simp only [Zr];rfl)
       · obtain ⟨rfl, rfl⟩ := hU2 (Classical.not_not.1 hv)
         obtain ⟨k',nm',s',b',kz'⟩:=U
         simp only [Tm.cells] at hown hV hfx ⊢
         repeat' first|refine Jc (hown _) ?_|refine Jc (hV _) ?_|refine Jt ?_|refine Jb ?_ ?_|refine Jz ?_ ?_|refine Jo ?_|intro hb
         all_goals first
          | (exfalso;simp at hb;done)
          | (exfalso;simp_all;done)
          | exact hfx _ _
     | x :: y :: r, hown, hV, hU2 =>
       simp only [sumT,Tm.cells] at hV hU2
       have e2:slV false 4 (Za (x::y::r))= .sl .none 4 (x.cells::y.cells::Za r):=Zm _ _ _ _
       rw [e2] at hown hV
       have hx1:Xo E0 .eql 3 (.int .i64 (Int.ofNat (x.cells::y.cells::Za r).length)) (.int .i64 0)=some (.bool false):=by
        show some (PV.bool (decide (_=_)))=_
        rw [decide_eq_false (by simp;omega)]
       have hx2:Xo E0 .eql 3 (.int .i64 (Int.ofNat (x.cells::y.cells::Za r).length)) (.int .i64 1)=some (.bool false):=by
        show some (PV.bool (decide (_=_)))=_
        rw [decide_eq_false (by simp;omega)]
       by_cases hv:v≠0
       · obtain ⟨rfl, rfl⟩ := hU1 hv
         repeat' first|refine Jc (hown _) ?_|refine Jc (hV _) ?_|refine Ji ?_|refine Jt ?_|refine Jb ?_ ?_|refine Jz ?_ ?_|refine Jo ?_|intro hb
         all_goals first
          | (exfalso;simp at hb;done)
          | (exfalso;simp_all;done)
          | (simp only [Zr];rfl)
       · obtain ⟨rfl, rfl⟩ := hU2 (Classical.not_not.1 hv)
         repeat' first|refine Jc (hown _) ?_|refine Jc (hV _) ?_|refine Ji ?_|refine Jt ?_|refine Jb ?_ ?_|refine Jz ?_ ?_|refine Jo ?_|intro hb
         all_goals first
          | (exfalso;simp at hb;done)
          | (exfalso;simp_all;done)
          | (simp only [Tm.cells,e2];rfl)
end Go.Vm.Seat
namespace Go.Vm
def flX (kz:List Tm):Bool:=match kz.getLast? with
 |none=>true
 |some u=> !u.sumP.isEmpty
def Tm.sumFl:Tm→Bool
 | .mk k nm _ _ kz=>if k=3∧nm=VA∧kz= [] then true else if k=3∧nm=Zba then flX kz else true
theorem ZgY {l:List Tm} {i:Nat} {t:Tm} (h:l[i]? = some t):flX (l.take (i+1))= !t.sumP.isEmpty:=by
 have e:l.take (i+1)=l.take i++ [t]:=by rw [List.take_add_one,h];rfl
 unfold flX
 rw [e]
 simp
end Go.Vm
namespace Go.Vm.Seat
variable {t:Tm}
open Go.Proofs
theorem ZpG {a:List Tm} (ha:SmL a) (hA:Asc a) (ht:t.Ok∧t.size≤100000) (hl:a.length+t.sumP.length≤100000) (ba bb:Bool):∀ H,CallOk E0 Tryz.prog 178 [slV ba 4 (Za a),slV bb 4 (Za t.sumP)] H (slV (!t.sumP.isEmpty) 4 (Za (Ya a t.sumP))) H:=by
 have:=Zwl ha (SmL.sum ht.1 ht.2) hl ba bb
 rwa [Zaw _ _ hA (Zcj t)] at this
theorem Zuj (ht:t.Ok):t.size≤100000→∀ H,CallOk E0 Tryz.prog 179 [.agg t.cells] H (slV t.sumFl 4 (Za t.sumP)) H:=by
 induction ht with
 | @mk k nm s b kz hk hs hn hl hok ih=>
 intro hsz
 simp only [Tm.size] at hsz
 refine ZH (own:=fun _=>false) tOk fe179.ok (by simp [Zx,frzG,Tm.cells,Xq]) (ZK _ _ _ _ _) ?_
 by_cases hx:k=3∧nm=Zba
 · obtain ⟨rfl, rfl⟩ := hx
   rw [Tm.sumP,if_neg (fun h=>absurd h.2.1 (by decide)),if_pos ⟨rfl,rfl⟩,Tm.sumFl,if_neg (fun h=>absurd h.2.1 (by decide)),if_pos ⟨rfl,rfl⟩]
   simp only [Tm.cells,Zba]
   have hkl:=Yy kz
   have hkid:SmL kz:=fun t ht=>⟨hok t ht,by have:=Z7 ht;omega⟩
   refine Wp.seq ?_
   repeat' first|refine Jk ?_|refine Jt ?_|refine Jo ?_|fail
   refine Wp.while (fun m tm H => ∃ (i : Nat) (base : TM), i + m = kz.length ∧
     tm=ovr base [(1,.ptr 0 4 0 0),(3,slV (flX (kz.take i)) 4 (Za (ZY (kz.take i) []))),(4,.int .i64 (i:Int))]∧H=⟨[.cells 4 [[.int .i64 3,.str [120,111,114],.int .i64 s,slV b 4 (Za kz)]]],0,[],0⟩)
    (fun m tm H hI=>?_) kz.length _ _ ⟨0,_,by omega,Zf ⟨rfl,(by rw [List.take_zero];simp only [ZY,Za,flX,List.getLast?_nil,Zg];rfl),rfl,trivial⟩,rfl⟩
   obtain ⟨i,base,hi,rfl,rfl⟩:=hI
   have h1:=Xn (kz.take i) []
   have h2:=ZL kz i
   simp only [List.length_nil] at h1
   by_cases hlt:i<kz.length
   · obtain ⟨t', ht'⟩ : ∃ t', kz[i]? = some t' := ⟨kz[i], by simp⟩
     have hm:t'∈kz:=List.mem_of_getElem? ht'
     have hle:=Z7 hm
     have hsn:=WL [] ht'
     have hfl:=ZgY ht'
     have h3:=UN t'
     have h4:=ZL kz (i+1)
     have h5:Zl (kz.take (i+1))=Zl (kz.take i)+t'.size:=by
      rw [List.take_add_one,ht',UR]
      simp [Zl]
     have hc:=ih t' hm (by omega)
     have hp:=ZpG (hkid.take i).sumL (Q2 (kz.take i) [] trivial) (hkid t' hm) (by omega) (flX (kz.take i)) t'.sumFl
     rw [← hsn, ← hfl] at hp
     obtain ⟨k',nm',s',b',kz'⟩:=t'
     have hj:=Zk ht'
     simp only [Tm.cells] at hc
     clear ih
     repeat' first|refine Jc (hc _) ?_|refine Jc (hp _) ?_|refine Jl ?_|refine Jx ?_|refine Jb ?_ ?_|refine Jo ?_|intro hb
     all_goals first
      | (exfalso;simp at hb;done)
      | (exfalso;simp only [Zb,decide_eq_false_iff_not] at hb;omega)
      | exact LoopI.go (m-1) (by omega) ⟨i+1,_,by omega,Zf ⟨rfl,rfl,Ze (Zd (n:=i+1) (by omega)),trivial⟩,rfl⟩
   · have e : i = kz.length := by omega
     subst e
     clear ih
     repeat' first|refine Jl ?_|refine Jb ?_ ?_|refine Jo ?_|intro hb
     · exfalso;rw [Zb] at hb;simp at hb
     · rw [List.take_length]
       exact ZK _ _ _ _ _
 · rw [Tm.sumP, Tm.sumFl]
   by_cases hz:k=3∧nm=VA∧kz= []
   · obtain ⟨rfl, rfl, rfl⟩ := hz
     rw [if_pos ⟨rfl,rfl,rfl⟩,if_pos ⟨rfl,rfl,rfl⟩]
     simp only [Tm.cells,VA]
     refine Wp.seq ?_
     cases b
     all_goals
      repeat' first|refine Jl ?_|refine Jt ?_|refine Jo ?_|fail
      simp only [Za,Zg]
      rfl
   · rw [if_neg hz, if_neg hx, if_neg hz, if_neg hx]
     have e:slV true 4 (Za [.mk k nm s b kz])= .sl .none 4 [[.int .i64 k,.str nm,.int .i64 s,slV b 4 (Za kz)]]:=Zm _ _ _ _
     rw [e]
     simp only [Tm.cells]
     refine Wp.seq ?_
     clear ih
     repeat' first|refine Jk ?_|refine Js ?_|refine Jl ?_|refine Jt ?_|refine Jb ?_ ?_|refine Jo ?_|intro hb
     all_goals first
      | rfl
      | (exfalso;simp_all [Zba,VA,Zb])
theorem ZuU:∀ H,CallOk E0 Tryz.prog 177 [] H (.agg (Tm.mk 3 VA 0 false []).cells) H:=by
 have ha:=Zmd VA (l:=[]) (by decide) true
 simp only [Tm.cells,Za,Zg,ZC,VA] at ha ⊢
 refine Jw tOk fe177.ok rfl ?_
 repeat' first|refine Jc (ha _) ?_|refine Jo ?_|fail
 all_goals rfl
theorem ZuB {l:List Tm} (hlen:l.length≤1000000) (b:Bool):∀ H,CallOk E0 Tryz.prog 180 [slV b 4 (Za l)] H (.agg (sumT false l).cells) H:=by
 have ha:=Zmd VA (l:=[]) (by decide) true
 match l,hlen with
 | [], _ =>
   simp only [sumT,Tm.cells,Za,Zg,ZC,VA] at ha ⊢
   cases b<;>simp only [Zg,ZC]
   all_goals
    refine Jw tOk fe180.ok rfl ?_
    repeat' first|refine Jc (ha _) ?_|refine Jt ?_|refine Jo ?_|fail
    all_goals rfl
 | [x], _ =>
   obtain ⟨k',nm',s',b',kz'⟩:=x
   simp only [sumT,Za,Zm,Tm.cells]
   refine Jw tOk fe180.ok (ZS _ _ _ _ _ _ _) ?_
   repeat' first|refine Jt ?_|refine Jo ?_|fail
   all_goals exact ZS _ _ _ _ _ _ _
 | x :: y :: r, hlen =>
   have hA0:ApV false 4 [] (.sl .full 4 []) [] 0:= .full [] _ _ rfl rfl
   obtain ⟨out',lv',nt',hap,hA', -⟩:=hA0.app Yh (.slV b 4 (Za (x::y::r))) (Zn _) (ZD (by simp only [Zb,List.length_nil];omega) (by decide)) (ZO _)
   rw [List.nil_append] at hA'
   have hco:=ZaJ hA' 3 Zba 0
   have hfr:=fun m H=>Zkq hA' m H 3 Zba 0
   have hlE:(Za (x::y::r)).length=r.length+2:=by rw [Zb];rfl
   have hc1:Xo E0 .eql 3 (.int .i64 ((Za (x::y::r)).length:Int)) (.int .i64 0)=some (.bool false):=by
    show some (PV.bool (decide (_=_)))=_
    rw [decide_eq_false (by rw [hlE];omega)]
   have hc2:Xo E0 .eql 3 (.int .i64 ((Za (x::y::r)).length:Int)) (.int .i64 1)=some (.bool false):=by
    show some (PV.bool (decide (_=_)))=_
    rw [decide_eq_false (by rw [hlE];omega)]
   simp only [sumT,Tm.cells]
   generalize Za (x::y::r)=L at hap hA' hco hfr hlE hc1 hc2 ⊢
   obtain ⟨tl,rfl⟩:=Zav hA'
   simp only [Zba] at hco hfr ⊢
   refine Jw tOk fe180.ok (ZS _ _ _ _ _ _ _) ?_
   repeat' first|refine Js ?_|refine JA ?_|refine Ji ?_|refine Jl ?_|refine Jo ?_|fail
   all_goals exact hfr _ _
end Go.Vm.Seat
namespace Go.Vm
def zeroT:Tm:= .mk 3 VA 0 false []
theorem Ze5:zeroT.valid=0:=by decide
theorem Zld:zeroT.Ok:= .mk (by decide) (by decide) (by decide) (by decide) (fun x hx=>by simp at hx)
end Go.Vm
namespace Go.Vm.Seat
variable {l:List Tm}
open Go.Proofs
theorem ZaZ:zeroT.cells= [.int .i64 3,.str [122,101,114,111],.int .i64 0,.sl .none 4 []]:=by
 show [PV.int .i64 3,.str [122,101,114,111],.int .i64 0,slV false 4 (Za [])]=_
 rw [show slV false 4 (Za [])= .sl .none 4 [] from ZC 4]
theorem Zu7 (hl:SmL l) (hlen:l.length≤1000000) (b:Bool):∀ H,CallOk E0 Tryz.prog 176 [slV b 4 (Za l),.agg [.int .i64 3,.str [122,101,114,111],.int .i64 0,.sl .none 4 []]] H (.int .i64 (if 200<l.length then 3 else Xu l)) H:=by
 have hV:∀ t,t∈l→∀ H,CallOk E0 Tryz.prog 133 [.agg t.cells] H (.int .i64 t.valid) H:=fun t ht=>ZnJ (hl t ht).1 (by have:=(hl t ht).2;omega)
 have hZ:=ZnJ Zld (by decide)
 rw [ZaZ,Ze5] at hZ
 refine Jw tOk fe176.ok rfl ?_
 by_cases h2:200<l.length
 · rw [if_pos h2]
   repeat' first|refine Jl ?_|refine Jb ?_ ?_|refine Jo ?_|intro hb
   all_goals first
    | rfl
    | (exfalso;rw [Zb] at hb;simp only [decide_eq_false_iff_not] at hb;omega)
 · rw [if_neg h2]
   repeat' first|refine Jl ?_|refine Jb ?_ ?_|refine Jo ?_|intro hb
   · exfalso;rw [Zb] at hb;simp only [decide_eq_true_eq] at hb;omega
   refine Wp.while (fun m tm H => ∃ (i : Nat) (base : TM), i + m = l.length ∧ Xu l = Xu (l.drop i) ∧
     tm=ovr base [(0,slV b 4 (Za l)),(3,.ptr 0 4 0 0),(5,.int .i64 (i:Int))]∧H=⟨[.cells 4 [[.int .i64 3,.str [122,101,114,111],.int .i64 0,.sl .none 4 []]]],0,[],0⟩)
    (fun m tm H hI=>?_) l.length _ _ ⟨0,_,by omega,by rw [List.drop_zero],Zf ⟨rfl,rfl,rfl,trivial⟩,rfl⟩
   obtain ⟨i,base,hi,hgo,rfl,rfl⟩:=hI
   rw [hgo]
   clear hb
   by_cases hlt:i<l.length
   · obtain ⟨t, ht⟩ : ∃ t, l[i]? = some t := ⟨l[i], by simp⟩
     have hc:=hV t (List.mem_of_getElem? ht)
     have hd:=ZaK ht
     generalize t.valid=v at hc hd
     obtain ⟨k',nm',s',f',kz'⟩:=t
     have hj:=Zk ht
     simp only [Tm.cells] at hc
     by_cases hv:v=0
     · subst hv
       rw [if_neg (by simp)] at hd
       repeat' first|refine Jc (hc _) ?_|refine Jl ?_|refine Jx ?_|refine Jt ?_|refine Jb ?_ ?_|refine Jo ?_|intro hb
       all_goals first
        | (exfalso;simp at hb;done)
        | (exfalso;simp only [Zb,decide_eq_false_iff_not] at hb;omega)
        | exact LoopI.go (m-1) (by omega) ⟨i+1,_,by omega,by rw [hd],Zf ⟨rfl,rfl,Ze (Zd (n:=i+1) (by omega)),trivial⟩,rfl⟩
     · rw [if_pos hv] at hd
       repeat' first|refine Jc (hc _) ?_|refine Jl ?_|refine Jx ?_|refine Jb ?_ ?_|refine Jo ?_|intro hb
       all_goals first
        | (exfalso;simp at hb;done)
        | (exfalso;simp only [Zb,decide_eq_false_iff_not] at hb;omega)
        | (exfalso;simp_all;done)
        | rw [hd]
   · have e : i = l.length := by omega
     subst e
     repeat' first|refine Jc (hZ _) ?_|refine Jl ?_|refine Jb ?_ ?_|refine Jo ?_|intro hb
     · exfalso;rw [Zb] at hb;simp at hb
     · rw [List.drop_length]
       rfl
theorem Zwa (hl:∀ t,t∈l→t.Ok∧t.size≤100000) (hs:Zl l≤90000) (b:Bool):∀ H,CallOk E0 Tryz.prog 152 [slV b 4 (Za l)] H (.tup [.agg (sumG false l).1.cells,.int .i64 (sumG false l).2]) H:=by
 have hlen:=Yy l
 have hlS:SmL l:=fun t ht=>⟨(hl t ht).1,by have:=(hl t ht).2;omega⟩
 have hR:=Zu7 hlS (by omega) b
 have hZ:=ZuU
 have hZ:∀ H,CallOk E0 Tryz.prog 177 [] H (.agg [.int .i64 3,.str [122,101,114,111],.int .i64 0,.sl .none 4 []]) H:=fun H=>by
  have:=hZ H
  rwa [show (Tm.mk 3 VA 0 false []).cells=_ from ZaZ] at this
 rw [Zig]
 generalize (if 200<l.length then (3:Int) else Xu l)=R at hR ⊢
 by_cases hR0:R≠0
 · rw [if_pos hR0]
   simp only [Zr]
   refine Jw tOk fe152.ok (Yl _ _ _) ?_
   repeat' first|refine Jc (hZ _) ?_|refine Jc (hR _) ?_|refine Jb ?_ ?_|refine Jo ?_|intro hb
   all_goals first
    | rfl
    | (exfalso;simp_all;done)
 · have hR0 : R = 0 := Classical.not_not.1 hR0
   subst hR0
   rw [if_neg (by simp)]
   have hP:SmL (ZY l []):=hlS.sumL
   have hPs:=UA l []
   have hPl:=Xn l []
   simp only [Zl,List.length_nil,Nat.zero_add] at hPs hPl
   have hQ:Zey false (ZY l [])=ZY l []:=rfl
   rw [hQ]
   have hV:∀ H,CallOk E0 Tryz.prog 133 [.agg (sumT false (ZY l [])).cells] H (.int .i64 (sumT false (ZY l [])).valid) H:=ZnJ (ZiW (fun x hx=>(hP x hx).1) (by omega)) (by
    have:=Zeo false (ZY l [])
    omega)
   have hT:=fun f=>ZuB (l:=ZY l []) (by omega) f
   generalize hU:sumT false (ZY l [])=U at hV hT ⊢
   obtain ⟨v,hv⟩:∃ v,v=U.valid:=⟨_,rfl⟩
   rw [← hv] at hV ⊢
   clear hv hU
   have hfr:=ZU 0 hNil (if v≠0 then (Tm.zero,(3:Int)) else (U,0)).1 (if v≠0 then (Tm.zero,(3:Int)) else (U,0)).2
   refine Jw tOk fe152.ok hfr ?_
   repeat' first|refine Jc (hZ _) ?_|refine Jc (hR _) ?_|refine Jt ?_|refine Jo ?_|fail
   refine Wp.while (fun m tm H => ∃ (i : Nat) (base : TM), i + m = l.length ∧
     tm=ovr base [(2,.ptr 0 4 0 0),(5,slV (flX (l.take i)) 4 (Za (ZY (l.take i) []))),(0,slV b 4 (Za l)),(6,.int .i64 (i:Int))]∧H=⟨[.cells 4 [zcT]],0,[],0⟩)
    (fun m tm H hI=>?_) l.length _ _ ⟨0,_,by omega,Zf ⟨rfl,(by rw [List.take_zero];simp only [ZY,Za,flX,List.getLast?_nil,Zg];rfl),rfl,rfl,trivial⟩,rfl⟩
   obtain ⟨i,base,hi,rfl,rfl⟩:=hI
   clear hR
   have h1:=Xn (l.take i) []
   have h2:=ZL l i
   simp only [List.length_nil] at h1
   by_cases hlt:i<l.length
   · obtain ⟨t', ht'⟩ : ∃ t', l[i]? = some t' := ⟨l[i], by simp⟩
     have hm:t'∈l:=List.mem_of_getElem? ht'
     have h4:=ZL l (i+1)
     have h5:Zl (l.take (i+1))=Zl (l.take i)+t'.size:=by
      rw [List.take_add_one,ht',UR]
      simp [Zl]
     have hle:=Z7 hm
     have hsn:=WL [] ht'
     have hfl:=ZgY ht'
     have h3:=UN t'
     have hc:=Zuj (hl t' hm).1 (hl t' hm).2
     have hp:=ZpG (hlS.take i).sumL (Q2 (l.take i) [] trivial) (hlS t' hm) (by omega) (flX (l.take i)) t'.sumFl
     rw [← hsn, ← hfl] at hp
     clear hV hT hfr hPs hPl
     obtain ⟨k',nm',s',b',kz'⟩:=t'
     have hj:=Zk ht'
     simp only [Tm.cells] at hc
     repeat' first|refine Jc (hc _) ?_|refine Jc (hp _) ?_|refine Jl ?_|refine Jx ?_|refine Jb ?_ ?_|refine Jo ?_|intro hb
     all_goals first
      | (exfalso;simp at hb;done)
      | (exfalso;simp only [Zb,decide_eq_false_iff_not] at hb;omega)
      | exact LoopI.go (m-1) (by omega) ⟨i+1,_,by omega,Zf ⟨rfl,rfl,rfl,Ze (Zd (n:=i+1) (by omega)),trivial⟩,rfl⟩
   · have e : i = l.length := by omega
     subst e
     rw [List.take_length]
     clear hi hlt h1 h2 hPs hPl hP hl hs hlen hfr
     have hT:=hT (flX l)
     have hfx:=fun m H=>ZU m H U 0
     by_cases hv:v≠0
     · rw [if_pos hv]
       obtain ⟨k',nm',s',b',kz'⟩:=U
       simp only [Tm.cells] at hT hV
       repeat' first|refine Jc (hT _) ?_|refine Jc (hV _) ?_|refine Jl ?_|refine Jb ?_ ?_|refine Jo ?_|intro hb
       all_goals first
        | (exfalso;simp only [Zb,decide_eq_true_eq] at hb;omega)
        | (exfalso;simp_all;done)
        | (simp only [Zr];rfl)
     · rw [if_neg hv]
       obtain ⟨k',nm',s',b',kz'⟩:=U
       simp only [Tm.cells] at hT hV hfx ⊢
       repeat' first|refine Jc (hT _) ?_|refine Jc (hV _) ?_|refine Jl ?_|refine Jb ?_ ?_|refine Jo ?_|intro hb
       all_goals first
        | (exfalso;simp only [Zb,decide_eq_true_eq] at hb;omega)
        | (exfalso;simp_all;done)
        | exact hfx _ _
