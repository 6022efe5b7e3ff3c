/-
  Services that are the same but for nil-ness are the same to the document.
-/
import Derived.Test.YtkaocdljkonfaaaGreatDoorJh
import Derived.Test.YtkaocdljkonfaaaGreatDoorLd55
set_option maxHeartbeats 64000000
set_option maxRecDepth 100000
namespace Go.Vm.Seat
variable {x:Tm}
open Go.Proofs
structure SvEq (a b:Sv):Prop where
 name:a.name=b.name
 key:a.key.cl=b.key.cl
 log:a.log.map Tm.cl=b.log.map Tm.cl
 keys:a.keys.map enK=b.keys.map enK
theorem SvEq.rfl' (a:Sv):SvEq a a:=⟨rfl,rfl,rfl,rfl⟩
theorem Y9:SvOk svZero:=⟨by simp [svZero],Tm.ok_zero,by show Tm.zero.size≤_;have:Tm.zero.size=1:=rfl;omega,by simp [svZero],by simp [svZero],by simp [svZero],by simp [svZero,Wz],by simp [svZero]⟩
theorem ZsQ (hx:x.Ok) (m:Int) (h1: -9223372036854775808≤m) (h2:m≤9223372036854775807):∀ H,CallOk E0 Tryz.prog 25 [.sl .full 4 [x.cells],.int .i64 1,.int .i64 m] H (.bool (QL [x] 1 m)) H:=fun H=>by
 have:=c25 (l:=[x]) (by
  intro t ht
  obtain rfl:t=x:=by simpa using ht
  exact hx) (by unfold maxLen;simp) true (n:=1) (most:=m) h1 h2 H
 simp only [Za,Zw] at this
 exact Z9 this rfl
theorem ZcW {m:Int} (h:QL [x] 1 m=true):(x.size:Int)≤m:=by
 unfold QL at h
 split at h
 · cases h
 · exact VR [x] m h x (by simp)
theorem ZfS:∀ {l m:List Tm},l.map Tm.cl=m.map Tm.cl→ZeI l m=true
 | [],[],_=>rfl
 | [],_::_,h=>by simp at h
 |_::_,[],h=>by simp at h
 | a :: r, b :: q, h => by
   rw [List.map_cons,List.map_cons] at h
   injection h with q1 q2
   simp only [ZeI,ZfS q2,decide_eq_true (Z0.2 q1),Bool.and_self]
theorem Zl4 (x y:Sv):ZC [.agg x.cells,.agg y.cells]=some [.agg x.cells,.agg y.cells]:=by
 obtain ⟨n1,⟨k1,m1,z1,b1,kids1⟩,lb1,log1,kb1,keys1⟩:=x
 obtain ⟨n2,⟨k2,m2,z2,b2,kids2⟩,lb2,log2,kb2,keys2⟩:=y
 simp only [Sv.cells,Tm.cells,List.cons_append,List.nil_append,ZC,frzG,Xm,Zu]
 rfl
theorem c16 {x y:Sv} (h:SvEq x y) (hx:SvOk x) (hy:SvOk y):∀ H,CallOk E0 Tryz.prog 16 [.agg x.cells,.agg y.cells] H (.bool true) H:=by
 have c1:=c23 hx.k hy.k (by have:=hx.ks;omega) (by have:=hy.ks;omega)
 rw [decide_eq_true (Z0.2 h.key)] at c1
 have c2:=c48 (l:=x.log) (m:=y.log) (fun t ht=>⟨hx.l t ht,by have:=hx.ls t ht;omega⟩) (fun t ht=>⟨hy.l t ht,by have:=hy.ls t ht;omega⟩) (by have:=hx.ll;omega) x.lb y.lb
 rw [ZfS h.log] at c2
 have hlk:x.keys.length=y.keys.length:=by simpa using congrArg List.length h.keys
 have e1:=ZhE x.name y.name
 rw [decide_eq_false (not_not_intro h.name)] at e1
 have q1:=Z6 x.keys
 have q2:=Z6 y.keys
 have e2:ZV E0 .neq 3 (.int .i64 ((enC x.keys).length:Int)) (.int .i64 ((enC y.keys).length:Int))=some (.bool false):=ZiK (by rw [q1,q2,hlk])
 have hel:=hx.el
 have cs:∀ (i:Nat) (e e':En),x.keys[i]? = some e→y.keys[i]? = some e'→e.name=e'.name∧e.idx=e'.idx∧∀ H,CallOk E0 Tryz.prog 23 [.agg e.key.cells,.agg e'.key.cells] H (.bool true) H:=fun i e e' he he'=>by
  have q:(x.keys[i]?).map enK=(y.keys[i]?).map enK:=by rw [← List.getElem?_map, ← List.getElem?_map,h.keys]
  rw [he,he'] at q
  simp only [Option.map_some,Option.some.injEq,enK,Prod.mk.injEq] at q
  have o1:=hx.e e (List.mem_of_getElem? he)
  have o2:=hy.e e' (List.mem_of_getElem? he')
  have c:=c23 o1.1.1 o2.1.1 (by have:=o1.1.2;omega) (by have:=o2.1.2;omega)
  rw [decide_eq_true (Z0.2 q.2.1)] at c
  exact ⟨q.1,q.2.2,c⟩
 have hfz:=Zl4 x y
 clear h hx hy
 obtain ⟨n1,⟨k1,m1,z1,b1,kids1⟩,lb1,log1,kb1,keys1⟩:=x
 obtain ⟨n2,⟨k2,m2,z2,b2,kids2⟩,lb2,log2,kb2,keys2⟩:=y
 simp only [] at hlk q1 q2 e2 hel cs e1
 simp only [Sv.cells,Tm.cells,List.cons_append,List.nil_append] at c1 c2 hfz ⊢
 refine Jw tOk fe16.ok rfl ?_ hfz
 repeat' first|refine Jc (c1 _) ?_|refine Jc (c2 _) ?_|refine Ji ?_|refine Jl ?_|refine Jt ?_|refine Jo ?_|fail
 refine Wp.while (fun m tm H=>∃ (i:Nat) (base:TM),i+m=keys1.length∧tm=ovr base [(2,.ptr 0 7 0 0),(3,.ptr 1 7 0 0),(5,.int .i64 (i:Int))]∧H=⟨[.cells 7 [[.str n1,.int .i64 k1,.str m1,.int .i64 z1,slV b1 4 (Za kids1),slV lb1 4 (Za log1),slV kb1 6 (enC keys1)]],.cells 7 [[.str n2,.int .i64 k2,.str m2,.int .i64 z2,slV b2 4 (Za kids2),slV lb2 4 (Za log2),slV kb2 6 (enC keys2)]]],0,[],0⟩)
  (fun m tm H hI=>?_) keys1.length _ _ ⟨0,_,by omega,Zi ⟨rfl,rfl,rfl,trivial⟩,rfl⟩
 clear e1 e2 c1 c2
 obtain ⟨i,base,hi,rfl,rfl⟩:=hI
 by_cases hlt:i<keys1.length
 · obtain ⟨e, he⟩ : ∃ e, keys1[i]? = some e := ⟨keys1[i], by simp⟩
   obtain ⟨e',he'⟩:∃ e',keys2[i]? = some e':=⟨keys2[i]'(by omega),by simp⟩
   have hlx:ZV E0 .lss 3 (.int .i64 (i:Int)) (.int .i64 ((enC keys1).length:Int))=some (.bool true):=We (by omega)
   obtain ⟨r1,r2,hs⟩:=cs i e e' he he'
   have w1:=ZhE e.name e'.name
   have w2:=Zkv e.idx e'.idx
   rw [decide_eq_false (not_not_intro r1)] at w1
   rw [decide_eq_false (not_not_intro r2)] at w2
   have hj1:=Xv he
   have hj2:=Xv he'
   have hlz:i<(enC keys1).length:=by omega
   have hlz2:i<(enC keys2).length:=by omega
   obtain ⟨na,⟨k5,n5,z5,t5,q5⟩,ia⟩:=e
   obtain ⟨nb,⟨k6,n6,z6,t6,q6⟩,ib⟩:=e'
   simp only [En.cells,Tm.cells,List.cons_append,List.nil_append] at hj1 hj2 hs w1 w2
   repeat' first|refine Ji ?_|refine Jl ?_|refine Jo ?_|refine Jd (hs _) ?_|refine JD ?_|refine JI ?_|(apply dF (ty:=4);rfl;rfl;rfl;rfl)|refine Jh ?_|(apply Wp.draw tOk follows;kernel_rfl)|fail
   exact LoopI.go (m-1) (by omega) ⟨i+1,_,by omega,Zi ⟨rfl,rfl,Zh (Ze (n:=i+1) (by omega)),trivial⟩,rfl⟩
 · have e : i = keys1.length := by omega
   subst e
   have hlx:ZV E0 .lss 3 (.int .i64 (keys1.length:Int)) (.int .i64 ((enC keys1).length:Int))=some (.bool false):=XS (by omega)
   repeat' first|refine Ji ?_|refine Jl ?_|refine Jt ?_|refine Jo ?_|fail
   all_goals rfl
end Go.Vm.Seat
