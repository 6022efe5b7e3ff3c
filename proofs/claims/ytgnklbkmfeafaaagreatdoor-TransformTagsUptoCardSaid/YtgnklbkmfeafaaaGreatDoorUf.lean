/-
  Is a text a name? The reference's text.
-/
import Derived.Test.YtgnklbkmfeafaaaGreatDoorUd
set_option maxHeartbeats 0
set_option maxRecDepth 100000
namespace Go.Vm
variable {l:List Zg} {x:Zg}
theorem Zep {i:Nat} (h:l[i]? = some x):ZdJ (l.drop i)=x.length+ZdJ (l.drop (i+1)):=by
 rw [ZA h];simp [ZdJ]
theorem ZeI (h:x∈l):x.length≤ZdJ l:=by
 induction l with
 |nil=>cases h
 | cons a r ih =>
   simp only [ZdJ,List.map_cons,List.sum_cons] at ih ⊢
   rcases List.mem_cons.1 h with rfl|h
   · omega
   · have:=ih h;omega
end Go.Vm
namespace Go.Vm.Seat
open Go.Proofs
theorem ZhI:ApT E0 76 76 5 56:=⟨_,_,_,_,_,rfl,rfl,rfl,rfl,rfl,rfl,rfl,by decide,rfl⟩
theorem ZjX (s:Zg) (hs:s.length≤65536):∃ (L:List Tkn) (k e:Int),∀ H,CallOk E0 Tryz.prog 49 [.str s] H (.tup [slV true 5 (QK L),.int .i64 k,.int .i64 e]) H:=by
 have key:∃ r H1,CallOk E0 Tryz.prog 49 [.str s] hNil r H1∧∃ (L:List Tkn) (k e:Int) (out:PV) (lv:List Nat) (nt:Nat),ApV true 5 (QK L) out lv nt∧r= .tup [out,.int .i64 k,.int .i64 e]:=by
  have hLn:=c81 s hs
  have hle:=Vt s []
  have hcn:=Vs s []
  simp only [List.length_nil,Nat.zero_add] at hle
  generalize Ya [] s=ls at hLn hle hcn
  have hsl:=ZC ls
  have hg:=Yv (s.length:Int) 65536
  rw [decide_eq_false (by omega)] at hg
  refine YS (own:=fun _=>false) tOk fe49.ok ?_
  refine Wp.seq ?_
  repeat' first|refine Jc (hLn _) ?_|refine Js ?_|refine JA ?_|refine JS ?_|refine JX ?_|refine Ji ?_|refine JJ ?_|refine Jl ?_|refine Jx ?_|refine Jt ?_|refine Jb ?_ ?_|refine Jo ?_|intro hb
  refine Wp.while (fun m tm H=>∃ (i:Nat) (base:TM) (L:List Tkn) (out:PV) (lv:List Nat) (nt:Nat),i+m=ls.length∧L.length+ZdJ (ls.drop i)≤65536∧ApV true 5 (QK L) out lv nt∧tm=ovr base [(5,out),(6,slV true 1 (Zi ls)),(7,.int .i64 (i:Int))]∧H=⟨[],0,lv,nt⟩)
   (fun m tm H hI=>Wp.drop ?_) ls.length _ _ ⟨0,_,[],_,_,_,by omega,by simp;omega,.nil _ _ rfl,Zf ⟨rfl,rfl,rfl,trivial⟩,rfl⟩
  obtain ⟨i,base,L,out,lv,nt,hi,hsum,hA,rfl,rfl⟩:=hI
  have hlx:=Zn (i:Int) ((Zi ls).length:Int)
  by_cases hlt:i<ls.length
  · rw [decide_eq_true (by omega)] at hlx
    obtain ⟨x,hx⟩:∃ x,ls[i]? = some x:=⟨ls[i],by simp⟩
    have hxm:=ZeI (List.mem_of_getElem? hx)
    rw [Zep hx] at hsum
    have hj:=Yf hx
    obtain ⟨q,hq,hBa⟩:=Zh8 x (by omega)
    have hii:=Zy (a:=(i:Int)) (b:=1) (by omega) (by omega)
    rw [show (i:Int)+1=((i+1:Nat):Int) by omega] at hii
    repeat' first|refine Jc (hBa _) ?_|refine Js ?_|refine JA ?_|refine JS ?_|refine JX ?_|refine Ji ?_|refine JJ ?_|refine Jl ?_|refine Jx ?_|refine Jt ?_|refine Jb ?_ ?_|refine Jo ?_|intro hb
    refine Wp.while (fun m2 tm H => ∃ (base : TM) (L : List Tkn) (rest : Zg) (out : PV) (lv : List Nat) (nt : Nat), rest.length ≤ m2 ∧ L.length + rest.length + ZdJ (ls.drop (i + 1)) ≤ 65536 ∧ rest.length ≤ 65536 ∧ ApV true 5 (QK L) out lv nt ∧
      tm=ovr base [(5,out),(6,slV true 1 (Zi ls)),(7,.int .i64 (i:Int)),(8,.str rest)]∧H=⟨[],0,lv,nt⟩)
     (fun m2 tm H hI=>Wp.drop ?_) q.length _ _ ⟨_,L,q,out,lv,nt,Nat.le_refl _,by omega,by omega,hA,Zf ⟨rfl,rfl,rfl,rfl,trivial⟩,rfl⟩
    clear hA hsum hBa hq
    obtain ⟨base2,L,rest,out,lv,nt,hm2,hsum,hr,hA,rfl,rfl⟩:=hI
    have hgr:=Yv (rest.length:Int) 0
    by_cases c0:0<rest.length
    · rw [decide_eq_true (by omega)] at hgr
      obtain ⟨d,hd⟩:∃ d,rest[0]? = some d:=⟨rest[0],by simp⟩
      have hjd:=Vi hd
      have hC:=c83 (d.toNat:Int)
      have k1:=Z6 (Xv (d.toNat:Int)) 1
      generalize Xv (d.toNat:Int)=z at hC k1
      by_cases c1:z=1
      · rw [decide_eq_true c1] at k1
        have hsl1:=Zaf (s:=rest) (k:=1) (by omega)
        have hU:=hA.under
        repeat' first|refine Jc (hC _) ?_|refine Js ?_|refine JA ?_|refine JS ?_|refine JX ?_|refine Ji ?_|refine JJ ?_|refine Jl ?_|refine Jx ?_|refine Jt ?_|refine Jb ?_ ?_|refine Jo ?_|intro hb
        refine DropQ.go [(5,out),(6,slV true 1 (Zi ls)),(7,.int .i64 (i:Int)),(8,.str (rest.drop 1))] ⟨rfl,rfl,rfl,rfl,trivial⟩ ?_ rfl rfl ?_
        · simp [under,Ze,hU]
        · exact LoopI.go (m2-1) (by omega) ⟨_,L,rest.drop 1,out,lv,nt,by simp;omega,by simp;omega,by simp;omega,hA,rfl,rfl⟩
      · rw [decide_eq_false c1] at k1
        obtain ⟨t,n,e,hne,hF⟩:=Zki rest hr (by omega) ((i+1:Nat):Int)
        have n1:=ZK e 0
        by_cases ce:e=0
        · rw [decide_eq_true ce] at n1
          have hn:=hne ce
          obtain ⟨o2,lv2,nt2,hap,hA2, -⟩:=hA.app ZhI (.sl .full 5 [t.cells]) (Zgd [t]) (ZH (by rw [ZeA];simp;omega) (by decide)) (Zfe [t])
          rw [show QK L++ [t.cells]=QK (L++ [t]) by rw [ZeJ];rfl] at hA2
          have hU:=hA2.under
          have hsl1:=Zaf (s:=rest) (k:=n) hn.2
          obtain ⟨tk,tt,tn,ts,tl⟩:=t
          simp only [Tkn.cells] at hF hap
          clear hA
          repeat' first|refine Jc (hC _) ?_|refine Jc (hF _) ?_|refine Js ?_|refine JA ?_|refine JS ?_|refine JX ?_|refine Ji ?_|refine JJ ?_|refine Jl ?_|refine Jx ?_|refine Jt ?_|refine Jb ?_ ?_|refine Jo ?_|intro hb
          refine DropQ.go [(5,o2),(6,slV true 1 (Zi ls)),(7,.int .i64 (i:Int)),(8,.str (rest.drop n))] ⟨rfl,rfl,rfl,rfl,trivial⟩ ?_ rfl rfl ?_
          · simp [under,Ze,hU]
          · exact LoopI.go (m2-1) (by omega) ⟨_,L++ [⟨tk,tt,tn,ts,tl⟩],rest.drop n,o2,lv2,nt2,by simp;omega,by simp;omega,by simp;omega,hA2,rfl,rfl⟩
        · rw [decide_eq_false ce] at n1
          obtain ⟨tk,tt,tn,ts,tl⟩:=t
          simp only [Tkn.cells] at hF
          repeat' first|refine Jc (hC _) ?_|refine Jc (hF _) ?_|refine Js ?_|refine JA ?_|refine JS ?_|refine JX ?_|refine Ji ?_|refine JJ ?_|refine Jl ?_|refine Jx ?_|refine Jt ?_|refine Jb ?_ ?_|refine Jo ?_|intro hb
          exact RetR.ret rfl ⟨[],_,_,_,[],0,.nil _ _ rfl,rfl⟩
    · rw [decide_eq_false (by omega)] at hgr
      have hU:=hA.under
      repeat' first|refine Js ?_|refine JA ?_|refine JS ?_|refine JX ?_|refine Ji ?_|refine JJ ?_|refine Jl ?_|refine Jx ?_|refine Jt ?_|refine Jb ?_ ?_|refine Jo ?_|intro hb
      refine DropQ.go [(5,out),(6,slV true 1 (Zi ls)),(7,.int .i64 ((i+1:Nat):Int))] ⟨rfl,rfl,rfl,trivial⟩ ?_ rfl rfl ?_
      · simp [under,Ze,hU]
      · exact LoopI.go (m-1) (by omega) ⟨i+1,_,L,out,lv,nt,by omega,by omega,hA,rfl,rfl⟩
  · have e : i = ls.length := by omega
    subst e
    rw [decide_eq_false (by omega)] at hlx
    repeat' first|refine Js ?_|refine JA ?_|refine JS ?_|refine JX ?_|refine Ji ?_|refine JJ ?_|refine Jl ?_|refine Jx ?_|refine Jt ?_|refine Jb ?_ ?_|refine Jo ?_|intro hb
    exact RetR.ret rfl ⟨L,_,_,_,_,_,hA,rfl⟩
 obtain ⟨r,H1,k1,L,k,e,out,lv,nt,hA,rfl⟩:=key
 refine ⟨L,k,e,fun H=>Z0 k1 rfl ?_ H⟩
 rw [YL]
 simp only [Xn,hA.frz2]
 rfl
theorem Zac {s:Zg} (h:WK s=true):s.length≤24∧s.all Yr=true∧∃ d r,s=d::r∧XX (d.toNat:Int)=true:=by
 cases s with
 |nil=>cases h
 | cons c r =>
   rw [XE] at h
   simp only [Bool.and_eq_true,decide_eq_true_eq] at h
   exact ⟨h.1,h.2.2,c,r,rfl,h.2.1⟩
theorem ZkW (s:Zg) (h:WK s=true):∀ H,CallOk E0 Tryz.prog 49 [.str s] H (.tup [.sl .none 5 [[.int .i64 1,.str (s.take (hhL s)),.int .i64 0,.str [],.int .i64 1]],.int .i64 0,.int .i64 0]) H:=by
 obtain ⟨hl,ha,d,r,rfl,hd⟩:=Zac h
 have hLn:=c81 (d::r) (by omega)
 rw [UV (d::r) [] (fun c hc=>(Zet (List.all_eq_true.1 ha c hc)).2.2) (by simp),List.nil_append] at hLn
 have hBa:=Zi4 (d::r) hl ha
 have hc35:d≠35:=by rintro rfl;revert hd;decide
 have hh:hhL (d::r)=hhL r+1:=if_neg (fun h=>hc35 h.1)
 have hq:(d::r).take (hhL (d::r))=d::r.take (hhL r):=by rw [hh];rfl
 rw [hq] at hBa ⊢
 have hql:(d::r.take (hhL r)).length≤24:=by simp at hl ⊢;omega
 have hqa:(d::r.take (hhL r)).all Yr=true:=by
  rw [List.all_eq_true]
  intro x hx
  refine List.all_eq_true.1 ha x ?_
  rcases List.mem_cons.1 hx with rfl|hx
  · exact List.mem_cons_self
  · exact List.mem_cons_of_mem _ (List.mem_of_mem_take hx)
 have hF:=ZkJ (d::r.take (hhL r)) hql d rfl hd hqa 1
 have hC:=c83 (d.toNat:Int)
 have k1:=Z6 (Xv (d.toNat:Int)) 1
 rw [decide_eq_false (by
  intro hz
  have:=VT (d.toNat:Int)
  rw [hz,hd] at this
  exact absurd this (by decide))] at k1
 generalize Xv (d.toNat:Int)=z at hC k1
 have hj:=Vi (s:=d::r.take (hhL r)) (i:=0) rfl
 have hs1:=Zaf (s:=d::r.take (hhL r)) (k:=(d::r.take (hhL r)).length) (Nat.le_refl _)
 rw [List.drop_length] at hs1
 have hg:=Yv ((d::r).length:Int) 65536
 rw [decide_eq_false (by omega)] at hg
 have hgr:=Yv ((d::r.take (hhL r)).length:Int) 0
 rw [decide_eq_true (by simp)] at hgr
 clear hl ha hd hc35 hh hq hql hqa h
 generalize d::r.take (hhL r)=q at *
 generalize d::r=s at *
 simp only [Zi,List.map_cons,List.map_nil] at hLn
 rw [Zx] at hLn
 refine Jw tOk fe49.ok rfl ?_
 repeat' first|refine Jc (hLn _) ?_|refine Js ?_|refine JA ?_|refine JS ?_|refine JX ?_|refine Ji ?_|refine JJ ?_|refine Jl ?_|refine Jx ?_|refine Jt ?_|refine Jb ?_ ?_|refine Jo ?_|intro hb
 refine Wp.loop ?_
 repeat' first|refine Jc (hBa _) ?_|refine Js ?_|refine JA ?_|refine JS ?_|refine JX ?_|refine Ji ?_|refine JJ ?_|refine Jl ?_|refine Jx ?_|refine Jt ?_|refine Jb ?_ ?_|refine Jo ?_|intro hb
 refine Wp.loop ?_
 repeat' first|refine Jc (hC _) ?_|refine Jc (hF _) ?_|refine Js ?_|refine JA ?_|refine JS ?_|refine JX ?_|refine Ji ?_|refine JJ ?_|refine Jl ?_|refine Jx ?_|refine Jt ?_|refine Jb ?_ ?_|refine Jo ?_|intro hb
 refine LoopQ.go ?_
 refine Wp.loop ?_
 repeat' first|refine Js ?_|refine JA ?_|refine JS ?_|refine JX ?_|refine Ji ?_|refine JJ ?_|refine Jl ?_|refine Jx ?_|refine Jt ?_|refine Jb ?_ ?_|refine Jo ?_|intro hb
 refine LoopQ.exit ?_
 repeat' first|refine Js ?_|refine JA ?_|refine JS ?_|refine JX ?_|refine Ji ?_|refine JJ ?_|refine Jl ?_|refine Jx ?_|refine Jt ?_|refine Jb ?_ ?_|refine Jo ?_|intro hb
 refine LoopQ.go ?_
 refine Wp.loop ?_
 repeat' first|refine Js ?_|refine JA ?_|refine JS ?_|refine JX ?_|refine Ji ?_|refine JJ ?_|refine Jl ?_|refine Jx ?_|refine Jt ?_|refine Jb ?_ ?_|refine Jo ?_|intro hb
 refine LoopQ.exit ?_
 repeat' first|refine Js ?_|refine JA ?_|refine JS ?_|refine JX ?_|refine Ji ?_|refine JJ ?_|refine Jl ?_|refine Jx ?_|refine Jt ?_|refine Jb ?_ ?_|refine Jo ?_|intro hb
 all_goals rfl
theorem ZgE (s:Zg):decide (s.take (hhL s)=s)=Zb5 s:=by
 have h:=ZcZ s
 have hl:=Zc3 s
 by_cases c:Zb5 s=true
 · rw [c, decide_eq_true]
   rw [h.2 c,List.take_length]
 · rw [decide_eq_false, (by simpa using c : Zb5 s = false)]
   intro e
   have:=congrArg List.length e
   rw [List.length_take] at this
   exact c (h.1 (by omega))
theorem Zj8 (s:Zg) (h:65536<s.length):∀ H,CallOk E0 Tryz.prog 49 [.str s] H (.tup [.nils,.int .i64 0,.int .i64 3]) H:=by
 have hg:=Yv (s.length:Int) 65536
 rw [decide_eq_true (by omega)] at hg
 refine Jw tOk fe49.ok rfl ?_
 repeat' first|refine Js ?_|refine JA ?_|refine JS ?_|refine JX ?_|refine Ji ?_|refine JJ ?_|refine Jl ?_|refine Jx ?_|refine Jt ?_|refine Jb ?_ ?_|refine Jo ?_|intro hb
 all_goals rfl
theorem c90 (s:Zg) (hs:s.length≤9223372036854775807):∀ H,CallOk E0 Tryz.prog 90 [.str s] H (.bool (YG s)) H:=by
 have hI:=Zi7 s hs
 refine Jw tOk fe90.ok rfl ?_
 by_cases hl:65536<s.length
 · have hT := Zj8 s hl
   have:YG s=false:=by
    unfold YG
    cases h:WK s with
    | false=>rfl
    | true=>have:=(Zac h).1;omega
   rw [this]
   repeat' first|refine Jk ?_|refine Jc (hT _) ?_|refine Ji ?_|refine JJ ?_|refine Jl ?_|refine Jx ?_|refine Jt ?_|refine Jb ?_ ?_|refine Jo ?_|intro hb
   all_goals rfl
 unfold YG
 cases hN:WK s with
 | true =>
   have hT:=ZkW s hN
   rw [hN] at hI
   have he:=Y1 (s.take (hhL s)) s
   rw [ZgE] at he
   rw [Bool.true_and]
   generalize s.take (hhL s)=q at hT he
   generalize Zb5 s=B at he ⊢
   cases B
   all_goals
    repeat' first|refine Jk ?_|refine Jc (hT _) ?_|refine Jc (hI _) ?_|refine Ji ?_|refine JJ ?_|refine Jl ?_|refine Jx ?_|refine Jt ?_|refine Jb ?_ ?_|refine Jo ?_|intro hb
    all_goals rfl
 | false =>
   rw [hN] at hI
   rw [Bool.false_and]
   obtain ⟨L,k,e,hT⟩:=ZjX s (by omega)
   have he:=ZbB e 0
   by_cases c0:e=0
   case neg=>
    rw [decide_eq_false c0] at he
    repeat' first|refine Jk ?_|refine Jc (hT _) ?_|refine Ji ?_|refine JJ ?_|refine Jl ?_|refine Jx ?_|refine Jt ?_|refine Jb ?_ ?_|refine Jo ?_|intro hb
    all_goals rfl
   rw [decide_eq_true c0] at he
   have hn:=Z6 ((QK L).length:Int) 1
   by_cases c1:(QK L).length=1
   case neg=>
    rw [decide_eq_false (by omega)] at hn
    repeat' first|refine Jk ?_|refine Jc (hT _) ?_|refine Ji ?_|refine JJ ?_|refine Jl ?_|refine Jx ?_|refine Jt ?_|refine Jb ?_ ?_|refine Jo ?_|intro hb
    all_goals rfl
   rw [decide_eq_true (by omega)] at hn
   match L,c1 with
   | [t], _ =>
     obtain ⟨tk,tt,tn,ts,tl⟩:=t
     simp only [QK,Tkn.cells,List.map_cons,List.map_nil] at hT hn
     rw [Zx] at hT
     have q1:=Z6 tk 1
     have q2:=Y1 tt s
     generalize decide (tk=1)=A at q1
     generalize decide (tt=s)=B at q2
     cases A<;>cases B
     all_goals
      repeat' first|refine Jk ?_|refine Jc (hT _) ?_|refine Jc (hI _) ?_|refine Ji ?_|refine JJ ?_|refine Jl ?_|refine Jx ?_|refine Jt ?_|refine Jb ?_ ?_|refine Jo ?_|intro hb
      all_goals rfl
