/-
  Comments are cut off; the tokens of a text; names: the reference's text.
-/
import Derived.Test.YtgnklbkmfeafaaaGreatDoorUb
set_option maxHeartbeats 0
set_option maxRecDepth 100000
namespace Go.Vm
def Ya (cur:Zg):Zg→List Zg
 | []=>if cur= [] then [] else [cur]
 |c::r=>if c=10 then cur::Ya [] r else Ya (cur++ [c]) r
def ZdJ (l:List Zg):Nat:=(l.map List.length).sum
theorem Vt:∀ (s cur:Zg),ZdJ (Ya cur s)≤cur.length+s.length
 | [], cur => by
   simp only [Ya]
   split
   · simp [ZdJ]
   · simp [ZdJ]
 | c :: r, cur => by
   simp only [Ya]
   split
   · have := Vt r []
     simp only [ZdJ,List.map_cons,List.sum_cons,List.length_nil,List.length_cons] at this ⊢
     omega
   · have := Vt r (cur ++ [c])
     simp only [List.length_append,List.length_cons,List.length_nil] at this ⊢
     omega
theorem Vs:∀ (s cur:Zg),(Ya cur s).length≤s.length+1
 | [],cur=>by simp only [Ya];split<;>simp
 | c :: r, cur => by
   simp only [Ya]
   split
   · have := Vs r []
     simp only [List.length_cons];omega
   · have := Vs r (cur ++ [c])
     simp only [List.length_cons];omega
theorem UV:∀ (s cur:Zg),(∀ c,c∈s→c≠10)→cur++s≠ []→Ya cur s= [cur++s]
 | [], cur, _, h => by
   simp only [List.append_nil] at h
   simp only [Ya,if_neg h,List.append_nil]
 | c :: r, cur, hn, h => by
   simp only [Ya,if_neg (hn c List.mem_cons_self)]
   rw [UV r (cur++ [c]) (fun x hx=>hn x (List.mem_cons_of_mem _ hx)) (by simp)]
   simp
def hhL:Zg→Nat
 | []=>0
 |c::r=>if c=35∧r.head? = some 35 then 0 else hhL r+1
theorem Zc3:∀ s:Zg,hhL s≤s.length
 | []=>Nat.le_refl _
 | c :: r => by
   have:=Zc3 r
   simp only [hhL,List.length_cons]
   split<;>omega
theorem ZcZ:∀ s:Zg,hhL s=s.length↔Zb5 s=true
 | []=>by simp [hhL,Zb5]
 | c :: r => by
   have ih:=ZcZ r
   have hl:=Zc3 r
   simp only [hhL,Zb5,List.length_cons,Bool.and_eq_true]
   by_cases h:c=35∧r.head? = some 35
   · rw [if_pos h]
     constructor
     · intro h1;omega
     · rintro ⟨h1,_⟩;simp [h.1,h.2] at h1
   · rw [if_neg h]
     constructor
     · intro h1
       refine ⟨?_,ih.1 (by omega)⟩
       simp only [Bool.not_eq_true',Bool.and_eq_false_iff,decide_eq_false_iff_not]
       exact Decidable.not_and_iff_or_not.1 h
     · rintro ⟨_, h2⟩
       rw [ih.2 h2]
end Go.Vm
namespace Go.Vm.Seat
open Go.Proofs
theorem XW:ApT E0 22 22 1 16:=⟨_,_,_,_,_,rfl,rfl,rfl,rfl,rfl,rfl,rfl,by decide,rfl⟩
theorem YJ (l:List Zg):(Zi l).all (fun c=>c.all Zp)=true:=by
 rw [Zi,List.all_map,List.all_eq_true]
 intro x _
 rfl
theorem Yz (l:List Zg):noB (Zi l)=true:=by
 rw [noB,Zi,List.all_map,List.all_eq_true]
 intro x _
 rfl
theorem VZ (a b:List Zg):Zi (a++b)=Zi a++Zi b:=by simp [Zi]
theorem QZ {a b:Zg} (h:a.length+b.length≤281474976710656):WL E0 .add 9 (.str a) (.str b)=some (.str (a++b)):=by
 show (if _ then _ else _)=_
 rw [if_pos h]
theorem c81 (s:Zg) (hs:s.length≤65536):∀ H,CallOk E0 Tryz.prog 81 [.str s] H (slV true 1 (Zi (Ya [] s))) H:=by
 refine Jw tOk fe81.ok (WU _ _ _ _ _) ?_
 repeat' first|refine Js ?_|refine JA ?_|refine JS ?_|refine JX ?_|refine Ji ?_|refine Jl ?_|refine Jt ?_|refine Jb ?_ ?_|refine Jo ?_|intro hb
 refine Wp.while (fun m tm H=>∃ (i:Nat) (base:TM) (L:List Zg) (cur:Zg) (out:PV) (lv:List Nat) (nt:Nat),i+m=s.length∧L.length+cur.length≤i∧Ya [] s=L++Ya cur (s.drop i)∧ApV true 1 (Zi L) out lv nt∧tm=ovr base [(0,.str s),(3,out),(4,.str cur),(5,.int .i64 (i:Int))]∧H=⟨[],0,lv,nt⟩)
  (fun m tm H hI=>Wp.drop ?_) s.length _ _ ⟨0,_,[],[],_,_,_,by omega,by simp,by simp,.nil _ _ rfl,Zf ⟨rfl,rfl,rfl,rfl,trivial⟩,rfl⟩
 obtain ⟨i,base,L,cur,out,lv,nt,hi,hLc,hgo,hA,rfl,rfl⟩:=hI
 rw [hgo]
 have hlx:=Zn (i:Int) (s.length:Int)
 by_cases hlt:i<s.length
 · rw [decide_eq_true (by omega)] at hlx
   obtain ⟨d,hd⟩:∃ d,s[i]? = some d:=⟨s[i],by simp⟩
   have hj:=Vi hd
   have hdr:=ZA hd
   have hii:=Zy (a:=(i:Int)) (b:=1) (by omega) (by omega)
   rw [show (i:Int)+1=((i+1:Nat):Int) by omega] at hii
   have h10:=X6 (d.toNat:Int) 10
   by_cases c10:d=10
   · subst c10
     rw [decide_eq_true (by decide)] at h10
     obtain ⟨o2,lv2,nt2,hap,hA2, -⟩:=hA.app XW (.sl .full 1 [[.str cur]]) (YJ [cur]) (ZH (by rw [ZC];simp;omega) (by decide)) (Yz [cur])
     rw [show Zi L++ [[.str cur]]=Zi (L++ [cur]) by rw [VZ];rfl] at hA2
     have hU:=hA2.under
     have hg:L++Ya cur (s.drop i)=(L++ [cur])++Ya [] (s.drop (i+1)):=by rw [hdr];simp [Ya]
     rw [hg]
     clear hA hdr hd
     repeat' first|refine Js ?_|refine JA ?_|refine JS ?_|refine JX ?_|refine Ji ?_|refine Jl ?_|refine Jt ?_|refine Jb ?_ ?_|refine Jo ?_|intro hb
     refine DropQ.go [(0,.str s),(3,o2),(4,.str []),(5,.int .i64 ((i+1:Nat):Int))] ⟨rfl,rfl,rfl,rfl,trivial⟩ ?_ rfl rfl ?_
     · simp [under,hU]
     · exact LoopI.go (m-1) (by omega) ⟨i+1,_,L++ [cur],[],o2,lv2,nt2,by omega,by simp;omega,rfl,hA2,rfl,rfl⟩
   · rw [decide_eq_false (fun h => c10 (UInt8.toNat_inj.1 (show d.toNat = 10 by omega)))] at h10
     have hsm:=Qw (s:=s) (k:=i) (m:=i+1) (by omega) (by omega)
     rw [show (s.take (i+1)).drop i= [d] by
      rw [List.take_add_one,hd,List.drop_append_of_le_length (by simp;omega)]
      simp] at hsm
     have hadd:=QZ (a:=cur) (b:=[d]) (by simp;omega)
     have hU:=hA.under
     have hg:L++Ya cur (s.drop i)=L++Ya (cur++ [d]) (s.drop (i+1)):=by rw [hdr];simp [Ya,c10]
     rw [hg]
     clear hdr hd
     repeat' first|refine Js ?_|refine JA ?_|refine JS ?_|refine JX ?_|refine Ji ?_|refine Jl ?_|refine Jt ?_|refine Jb ?_ ?_|refine Jo ?_|intro hb
     refine DropQ.go [(0,.str s),(3,out),(4,.str (cur++ [d])),(5,.int .i64 ((i+1:Nat):Int))] ⟨rfl,rfl,rfl,rfl,trivial⟩ ?_ rfl rfl ?_
     · simp [under,hU]
     · exact LoopI.go (m-1) (by omega) ⟨i+1,_,L,cur++ [d],out,lv,nt,by omega,by simp;omega,rfl,hA,rfl,rfl⟩
 · have e : i = s.length := by omega
   subst e
   rw [decide_eq_false (by omega)] at hlx
   rw [List.drop_length]
   have hne:=ZaT cur []
   by_cases c0:cur= []
   · rw [decide_eq_true c0] at hne
     rw [show Ya cur []= [] by simp [Ya,c0],List.append_nil]
     have hfr:=fun m H=>hA.frz3 m H
     repeat' first|refine Js ?_|refine JA ?_|refine JS ?_|refine JX ?_|refine Ji ?_|refine Jl ?_|refine Jt ?_|refine Jb ?_ ?_|refine Jo ?_|intro hb
     all_goals exact hfr _ _
   · rw [decide_eq_false c0] at hne
     obtain ⟨o2,lv2,nt2,hap,hA2, -⟩:=hA.app XW (.sl .full 1 [[.str cur]]) (YJ [cur]) (ZH (by rw [ZC];simp;omega) (by decide)) (Yz [cur])
     rw [show Zi L++ [[.str cur]]=Zi (L++ [cur]) by rw [VZ];rfl] at hA2
     rw [show Ya cur []= [cur] by simp [Ya,c0]]
     have hfr:=fun m H=>hA2.frz3 m H
     repeat' first|refine Js ?_|refine JA ?_|refine JS ?_|refine JX ?_|refine Ji ?_|refine Jl ?_|refine Jt ?_|refine Jb ?_ ?_|refine Jo ?_|intro hb
     all_goals exact hfr _ _
end Go.Vm.Seat
namespace Go.Vm
theorem ZcB {s:Zg} {i:Nat} (d:UInt8) (r:Zg) (h:s.drop i=d::r):(s.take (i+2)).drop i=d::r.take 1:=by
 rw [List.drop_take,h,show i+2-i=2 by omega]
 rfl
theorem Zfu (d:UInt8) (r:Zg):(d::r.take 1= [35,35])↔(d=35∧r.head? = some 35):=by
 cases r<;>simp
end Go.Vm
namespace Go.Vm.Seat
open Go.Proofs
theorem Zh8 (s:Zg) (hs:s.length≤65536):∃ r:Zg,r.length≤s.length∧∀ H,CallOk E0 Tryz.prog 82 [.str s] H (.str r) H:=by
 have key:∃ r H1,CallOk E0 Tryz.prog 82 [.str s] hNil r H1∧∃ q:Zg,q.length≤s.length∧r= .str q:=by
  refine YS (own:=fun _=>false) tOk fe82.ok ?_
  refine Wp.seq ?_
  repeat' first|refine Jk ?_|refine JS ?_|refine JX ?_|refine Ji ?_|refine Jl ?_|refine Jt ?_|refine Jb ?_ ?_|refine Jo ?_|intro hb
  refine Wp.while (fun m tm H=>∃ (i:Nat) (base:TM) (b:Bool),i+m=s.length+1∧tm=ovr base [(0,.str s),(3,.bool b),(4,.int .i64 (i:Int))]∧H=⟨[],0,[],0⟩)
   (fun m tm H hI=>Wp.drop ?_) (s.length+1) _ _ ⟨0,_,false,by omega,Zf ⟨rfl,rfl,rfl,trivial⟩,rfl⟩
  obtain ⟨i,base,b,hi,rfl,rfl⟩:=hI
  have hlx:=Zn (i:Int) (s.length:Int)
  by_cases hlt:i<s.length
  · rw [decide_eq_true (by omega)] at hlx
    obtain ⟨d,hd⟩:∃ d,s[i]? = some d:=⟨s[i],by simp⟩
    have hj:=Vi hd
    have hii:=Zy (a:=(i:Int)) (b:=1) (by omega) (by omega)
    rw [show (i:Int)+1=((i+1:Nat):Int) by omega] at hii
    have hi2:=Zy (a:=((i+1:Nat):Int)) (b:=1) (by omega) (by omega)
    rw [show ((i+1:Nat):Int)+1=((i+2:Nat):Int) by omega] at hi2
    have hi3:=Zy (a:=(i:Int)) (b:=2) (by omega) (by omega)
    rw [show (i:Int)+2=((i+2:Nat):Int) by omega] at hi3
    have q92:=X6 (d.toNat:Int) 92
    have q34:=X6 (d.toNat:Int) 34
    have hl1:=Zn ((i+1:Nat):Int) (s.length:Int)
    have hsl:=VE (s:=s) (k:=i) (by omega)
    generalize decide ((d.toNat:Int)=92)=A at q92
    generalize decide ((d.toNat:Int)=34)=B at q34
    have fin:∀ c:Bool,c=true∨c=false→True:=fun _ _=>trivial
    clear fin
    cases b with
    | true =>
      cases A with
      | true =>
        repeat' first|refine Jk ?_|refine JS ?_|refine JX ?_|refine Ji ?_|refine Jl ?_|refine Jt ?_|refine Jb ?_ ?_|refine Jo ?_|intro hb
        refine DropQ.go [(0,.str s),(3,.bool true),(4,.int .i64 ((i+2:Nat):Int))] ⟨rfl,rfl,rfl,trivial⟩ rfl rfl rfl ?_
        exact LoopI.go (m-2) (by omega) ⟨i+2,_,true,by omega,rfl,rfl⟩
      | false=>
      cases B with
      | false =>
        repeat' first|refine Jk ?_|refine JS ?_|refine JX ?_|refine Ji ?_|refine Jl ?_|refine Jt ?_|refine Jb ?_ ?_|refine Jo ?_|intro hb
        refine DropQ.go [(0,.str s),(3,.bool true),(4,.int .i64 ((i+1:Nat):Int))] ⟨rfl,rfl,rfl,trivial⟩ rfl rfl rfl ?_
        exact LoopI.go (m-1) (by omega) ⟨i+1,_,true,by omega,rfl,rfl⟩
      | true =>
        by_cases c1:i+1<s.length
        · rw [decide_eq_true (by omega)] at hl1
          have hsm:=Qw (s:=s) (k:=i) (m:=i+2) (by omega) (by omega)
          have hq:=Y1 ((s.take (i+2)).drop i) [35,35]
          generalize decide ((s.take (i+2)).drop i= [35,35])=C at hq
          cases C with
          | true =>
            repeat' first|refine Jk ?_|refine JS ?_|refine JX ?_|refine Ji ?_|refine Jl ?_|refine Jt ?_|refine Jb ?_ ?_|refine Jo ?_|intro hb
            exact RetR.ret rfl ⟨s.take i,by simp;omega,rfl⟩
          | false =>
            repeat' first|refine Jk ?_|refine JS ?_|refine JX ?_|refine Ji ?_|refine Jl ?_|refine Jt ?_|refine Jb ?_ ?_|refine Jo ?_|intro hb
            refine DropQ.go [(0,.str s),(3,.bool false),(4,.int .i64 ((i+1:Nat):Int))] ⟨rfl,rfl,rfl,trivial⟩ rfl rfl rfl ?_
            exact LoopI.go (m-1) (by omega) ⟨i+1,_,false,by omega,rfl,rfl⟩
        · rw [decide_eq_false (by omega)] at hl1
          repeat' first|refine Jk ?_|refine JS ?_|refine JX ?_|refine Ji ?_|refine Jl ?_|refine Jt ?_|refine Jb ?_ ?_|refine Jo ?_|intro hb
          refine DropQ.go [(0,.str s),(3,.bool false),(4,.int .i64 ((i+1:Nat):Int))] ⟨rfl,rfl,rfl,trivial⟩ rfl rfl rfl ?_
          exact LoopI.go (m-1) (by omega) ⟨i+1,_,false,by omega,rfl,rfl⟩
    | false =>
      cases B with
      | true =>
        repeat' first|refine Jk ?_|refine JS ?_|refine JX ?_|refine Ji ?_|refine Jl ?_|refine Jt ?_|refine Jb ?_ ?_|refine Jo ?_|intro hb
        refine DropQ.go [(0,.str s),(3,.bool true),(4,.int .i64 ((i+1:Nat):Int))] ⟨rfl,rfl,rfl,trivial⟩ rfl rfl rfl ?_
        exact LoopI.go (m-1) (by omega) ⟨i+1,_,true,by omega,rfl,rfl⟩
      | false =>
        by_cases c1:i+1<s.length
        · rw [decide_eq_true (by omega)] at hl1
          have hsm:=Qw (s:=s) (k:=i) (m:=i+2) (by omega) (by omega)
          have hq:=Y1 ((s.take (i+2)).drop i) [35,35]
          generalize decide ((s.take (i+2)).drop i= [35,35])=C at hq
          cases C with
          | true =>
            repeat' first|refine Jk ?_|refine JS ?_|refine JX ?_|refine Ji ?_|refine Jl ?_|refine Jt ?_|refine Jb ?_ ?_|refine Jo ?_|intro hb
            exact RetR.ret rfl ⟨s.take i,by simp;omega,rfl⟩
          | false =>
            repeat' first|refine Jk ?_|refine JS ?_|refine JX ?_|refine Ji ?_|refine Jl ?_|refine Jt ?_|refine Jb ?_ ?_|refine Jo ?_|intro hb
            refine DropQ.go [(0,.str s),(3,.bool false),(4,.int .i64 ((i+1:Nat):Int))] ⟨rfl,rfl,rfl,trivial⟩ rfl rfl rfl ?_
            exact LoopI.go (m-1) (by omega) ⟨i+1,_,false,by omega,rfl,rfl⟩
        · rw [decide_eq_false (by omega)] at hl1
          repeat' first|refine Jk ?_|refine JS ?_|refine JX ?_|refine Ji ?_|refine Jl ?_|refine Jt ?_|refine Jb ?_ ?_|refine Jo ?_|intro hb
          refine DropQ.go [(0,.str s),(3,.bool false),(4,.int .i64 ((i+1:Nat):Int))] ⟨rfl,rfl,rfl,trivial⟩ rfl rfl rfl ?_
          exact LoopI.go (m-1) (by omega) ⟨i+1,_,false,by omega,rfl,rfl⟩
  · rw [decide_eq_false (by omega)] at hlx
    repeat' first|refine Jk ?_|refine JS ?_|refine JX ?_|refine Ji ?_|refine Jl ?_|refine Jt ?_|refine Jb ?_ ?_|refine Jo ?_|intro hb
    exact RetR.ret rfl ⟨s,Nat.le_refl _,rfl⟩
 obtain ⟨r,H1,k1,q,hq,rfl⟩:=key
 exact ⟨q,hq,fun H=>Z0 k1 rfl rfl H⟩
theorem Zet {d:UInt8} (h:Yr d=true):(d.toNat:Int)≠34∧(d.toNat:Int)≠10∧d≠10:=by
 have:Qo (d.toNat:Int)=true:=h
 simp [Qo,XX,Uz] at this
 refine ⟨by omega,by omega,fun e=>?_⟩
 subst e
 simp at this
theorem Zi4 (s:Zg) (hs:s.length≤24) (ha:s.all Yr=true):∀ H,CallOk E0 Tryz.prog 82 [.str s] H (.str (s.take (hhL s))) H:=by
 refine Jw tOk fe82.ok rfl ?_
 repeat' first|refine Jk ?_|refine JS ?_|refine JX ?_|refine Ji ?_|refine Jl ?_|refine Jt ?_|refine Jb ?_ ?_|refine Jo ?_|intro hb
 refine Wp.while (fun m tm H=>∃ (i:Nat) (base:TM),i+m=s.length∧hhL s=i+hhL (s.drop i)∧tm=ovr base [(0,.str s),(3,.bool false),(4,.int .i64 (i:Int))]∧H=⟨[],0,[],0⟩)
  (fun m tm H hI=>Wp.drop ?_) s.length _ _ ⟨0,_,by omega,by simp,Zf ⟨rfl,rfl,rfl,trivial⟩,rfl⟩
 obtain ⟨i,base,hi,hrun,rfl,rfl⟩:=hI
 have hlx:=Zn (i:Int) (s.length:Int)
 by_cases hlt:i<s.length
 · rw [decide_eq_true (by omega)] at hlx
   obtain ⟨d,hd⟩:∃ d,s[i]? = some d:=⟨s[i],by simp⟩
   have hp:=Zet (List.all_eq_true.1 ha d (List.mem_of_getElem? hd))
   have hj:=Vi hd
   have hdr:=ZA hd
   have hii:=Zy (a:=(i:Int)) (b:=1) (by omega) (by omega)
   rw [show (i:Int)+1=((i+1:Nat):Int) by omega] at hii
   have hi3:=Zy (a:=(i:Int)) (b:=2) (by omega) (by omega)
   rw [show (i:Int)+2=((i+2:Nat):Int) by omega] at hi3
   have q34:=X6 (d.toNat:Int) 34
   rw [decide_eq_false hp.1] at q34
   have hl1:=Zn ((i+1:Nat):Int) (s.length:Int)
   have hsl:=VE (s:=s) (k:=i) (by omega)
   by_cases c1:i+1<s.length
   · rw [decide_eq_true (by omega)] at hl1
     have hsm:=Qw (s:=s) (k:=i) (m:=i+2) (by omega) (by omega)
     rw [ZcB d _ hdr] at hsm
     have hq:=Y1 (d::(s.drop (i+1)).take 1) [35,35]
     by_cases c2:d=35∧(s.drop (i+1)).head? = some 35
     · rw [decide_eq_true ((Zfu _ _).2 c2)] at hq
       have:hhL (s.drop i)=0:=by rw [hdr];exact if_pos c2
       rw [show hhL s=i by omega]
       clear hdr hd hrun
       repeat' first|refine Jk ?_|refine JS ?_|refine JX ?_|refine Ji ?_|refine Jl ?_|refine Jt ?_|refine Jb ?_ ?_|refine Jo ?_|intro hb
       all_goals rfl
     · rw [decide_eq_false (fun h => c2 ((Zfu _ _).1 h))] at hq
       have:hhL (s.drop i)=hhL (s.drop (i+1))+1:=by rw [hdr];exact if_neg c2
       clear hdr hd
       repeat' first|refine Jk ?_|refine JS ?_|refine JX ?_|refine Ji ?_|refine Jl ?_|refine Jt ?_|refine Jb ?_ ?_|refine Jo ?_|intro hb
       refine DropQ.go [(0,.str s),(3,.bool false),(4,.int .i64 ((i+1:Nat):Int))] ⟨rfl,rfl,rfl,trivial⟩ rfl rfl rfl ?_
       exact LoopI.go (m-1) (by omega) ⟨i+1,_,by omega,by omega,rfl,rfl⟩
   · rw [decide_eq_false (by omega)] at hl1
     have hz:s.drop (i+1)= []:=List.drop_eq_nil_of_le (by omega)
     have:hhL (s.drop i)=hhL (s.drop (i+1))+1:=by rw [hdr,hz];exact if_neg (by simp)
     clear hdr hd hz
     repeat' first|refine Jk ?_|refine JS ?_|refine JX ?_|refine Ji ?_|refine Jl ?_|refine Jt ?_|refine Jb ?_ ?_|refine Jo ?_|intro hb
     refine DropQ.go [(0,.str s),(3,.bool false),(4,.int .i64 ((i+1:Nat):Int))] ⟨rfl,rfl,rfl,trivial⟩ rfl rfl rfl ?_
     exact LoopI.go (m-1) (by omega) ⟨i+1,_,by omega,by omega,rfl,rfl⟩
 · have e : i = s.length := by omega
   subst e
   rw [decide_eq_false (by omega)] at hlx
   rw [List.drop_length] at hrun
   rw [show hhL s=s.length by simp [hhL] at hrun;omega,List.take_length]
   repeat' first|refine Jk ?_|refine JS ?_|refine JX ?_|refine Ji ?_|refine Jl ?_|refine Jt ?_|refine Jb ?_ ?_|refine Jo ?_|intro hb
   all_goals rfl
