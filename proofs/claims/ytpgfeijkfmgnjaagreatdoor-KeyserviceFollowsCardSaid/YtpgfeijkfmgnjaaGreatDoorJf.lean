/-
  The validity of a service, by the program's text.
-/
import Derived.Test.YtpgfeijkfmgnjaaGreatDoorLb
set_option maxHeartbeats 0
set_option maxRecDepth 100000
namespace Go.Vm.Seat
open Go.Proofs
theorem Zoj:∀ (s:Bs) (k:Nat),decide (0≤V7 s 35 k)=s.any fun c=>c==35
 | [],k=>by simp [V7]
 | b :: r, k => by
   rw [List.any_cons]
   by_cases h:(b.toNat:Int)=35
   · have hb : b = 35 := ZiU (by simpa using h)
     have e:V7 (b::r) 35 k=(k:Int):=by simp only [V7,if_pos h]
     rw [e,hb]
     simp
   · have hb : (b == 35) = false := by
       simp only [beq_eq_false_iff_ne]
       intro e
       subst e
       exact h rfl
     have e:V7 (b::r) 35 k=V7 r 35 (k+1):=by simp only [V7,if_neg h]
     rw [e,hb,Bool.false_or]
     exact Zoj r (k+1)
theorem Zou (s:Bs) (H:Heap):CallOk E0 Tryz.prog 210 [.str s,.int .u8 35] H (.int .i64 (V7 s 35 0)) H:=(z210 [.str s,.int .u8 35] H _ _ rfl).1
theorem ZpK (s:Bs):∀ H,CallOk E0 Tryz.prog 165 [.str s,.int .u8 35] H (.int .i64 (V7 s 35 0)) H:=by
 refine Jw tOk fe165.ok rfl ?_
 repeat' first|refine Jc (Zou s _) ?_|refine Jo ?_|fail
 all_goals rfl
theorem ZsU (s:Bs):∀ H,CallOk E0 Tryz.prog 127 [.str s,.str [35]] H (.int .i64 (V7 s 35 0)) H:=by
 refine Jw tOk fe127.ok rfl ?_
 repeat' first|refine Jc (ZpK _ _) ?_|refine Jt ?_|refine Jb ?_ ?_|refine Jo ?_|intro hb
 · simp at hb
   subst hb
   rfl
 · rfl
theorem ZrL (s:Bs):∀ H,CallOk E0 Tryz.prog 87 [.str s,.str [35]] H (.int .i64 (V7 s 35 0)) H:=by
 refine Jw tOk fe87.ok rfl ?_
 repeat' first|refine Jc (ZsU _ _) ?_|refine Jo ?_|fail
 all_goals rfl
theorem c42 (s:Bs):∀ H,CallOk E0 Tryz.prog 42 [.str s,.str [35]] H (.bool (s.any fun c=>c==35)) H:=by
 have h:=Zoj s 0
 have hc:=ZrL s
 have e:((0:Nat):Int)=0:=rfl
 rw [← h]
 have hg:ZP E0 .geq 3 (.int .i64 (V7 s 35 0)) (.int .i64 0)=some (.bool (decide (0≤V7 s 35 0))):=rfl
 clear h e
 generalize decide (0≤V7 s 35 0)=D at hg ⊢
 generalize V7 s 35 0=I at hc hg
 refine Jw tOk fe42.ok rfl ?_
 repeat' first|refine Jc (hc _) ?_|refine Ji ?_|refine Jt ?_|refine Jo ?_|fail
 all_goals rfl
theorem ZgN (s:Bs):(Tm.mk 2 s 0 true []).valid=if Vs s=true then 0 else 2:=by
 unfold Tm.valid
 simp only [Tm.nodes,XC,Ve,Tm.size,Zx,Tm.depth,Y9,List.length_nil]
 cases Vs s<;>simp
theorem c17 (s:Bs) (hs:s.length≤1000):∀ H,CallOk E0 Tryz.prog 17 [.str s] H (.bool (Xq s)) H:=by
 have hok:(Tm.mk 2 s 0 true []).Ok:= .mk (by decide) (by decide) (by unfold maxLen;omega) (by unfold maxLen;decide) (by simp)
 have c1:=c41 hok (by simp [Tm.size,Zx])
 have c2:=c42 s
 rw [ZgN] at c1
 have ec:(Tm.mk 2 s 0 true []).cells= [.int .i64 2,.str s,.int .i64 0,.nils]:=by simp only [Tm.cells,Za,Zq]
 rw [ec] at c1
 unfold Xq
 generalize Vs s=N at c1 ⊢
 generalize (s.any fun c=>c==35)=D at c2 ⊢
 clear hok ec hs
 cases N<;>cases D
 all_goals simp only [if_true,Bool.false_eq_true,if_false] at c1
 all_goals
  refine Jw tOk fe17.ok rfl ?_
  repeat' first|refine Jk ?_|refine Jc (c1 _) ?_|refine Jc (c2 _) ?_|refine Jt ?_|refine Jo ?_|fail
 all_goals rfl
theorem c18 (name:Bs):∀ H,CallOk E0 Tryz.prog 18 [.str name] H (.agg (skT name).cells) H:=by
 have e:(skT name).cells= [.int .i64 3,.str [115,107],.int .i64 0,.sl .none 4 [[.int .i64 2,.str name,.int .i64 1,.nils]]]:=by
  simp only [skT,Tm.cells,Za,Zw,Zq]
 rw [e]
 refine Jw tOk fe18.ok rfl ?_
 repeat' first|refine Js ?_|refine Jo ?_|fail
 all_goals rfl
def enQ (a b:En):Bool:=decide (a.name=b.name)&&(decide (a.idx=b.idx)&&decide (a.key.cmp b.key=0))
theorem Zry (a b:En):ZJ [.agg a.cells,.agg b.cells]=some [.agg a.cells,.agg b.cells]:=by
 obtain ⟨nm,⟨k,m,s,tb,kz⟩,i⟩:=a
 obtain ⟨nm',⟨k',m',s',tb',kz'⟩,i'⟩:=b
 simp only [En.cells,Tm.cells,List.cons_append,List.nil_append,ZJ,frzG,XY,ZD]
 rfl
theorem c45 {a b:En} (ha:a.key.Ok∧a.key.size≤90000) (hb:b.key.Ok∧b.key.size≤90000):∀ H,CallOk E0 Tryz.prog 45 [.agg a.cells,.agg b.cells] H (.bool (enQ a b)) H:=by
 have c1:=c32 ha.1 hb.1 (by have:=ha.2;omega) (by have:=hb.2;omega)
 have e1:ZP E0 .eql 9 (.str a.name) (.str b.name)=some (.bool (decide (a.name=b.name))):=by
  show some (PV.bool (a.name==b.name))=_
  by_cases h:a.name=b.name<;>simp [h]
 have e2:=Zr9 a.idx b.idx
 have hfz:=Zry a b
 unfold enQ
 clear ha hb
 generalize decide (a.name=b.name)=A at e1 ⊢
 generalize decide (a.idx=b.idx)=B at e2 ⊢
 generalize decide (a.key.cmp b.key=0)=C at c1 ⊢
 obtain ⟨nm,⟨k,m,s,tb,kz⟩,i⟩:=a
 obtain ⟨nm',⟨k',m',s',tb',kz'⟩,i'⟩:=b
 simp only [En.cells,Tm.cells,List.cons_append,List.nil_append] at c1 e1 e2 hfz ⊢
 cases A<;>cases B<;>cases C
 all_goals
  refine Jw tOk fe45.ok rfl ?_ hfz
  repeat' first|refine Jk ?_|refine Jc (c1 _) ?_|refine Ji ?_|refine Jt ?_|refine Jo ?_|fail
 all_goals rfl
theorem c44 {L M:List En} (hL:Us 90000 L) (hM:Us 90000 M) (hl:L.length≤1000) (b b':Bool):∀ H,CallOk E0 Tryz.prog 44 [slV b 6 (enC L),slV b' 6 (enC M),.fn 45 []] H (.bool (enB L M)) H:=by
 have e1:=Yj L
 have e2:=Yj M
 have hne:=ZrE ((enC L).length:Int) ((enC M).length:Int)
 refine Jw tOk fe44.ok rfl ?_
 by_cases hlen:L.length=M.length
 · rw [decide_eq_false (by omega)] at hne
   repeat' first|refine Ji ?_|refine Jl ?_|refine Jt ?_|refine Jo ?_|fail
   refine Wp.while (fun k tm H=>∃ (i:Nat) (base:TM),i+k=L.length∧enB L M=enB (L.drop i) (M.drop i)∧tm=ovr base [(1,slV b' 6 (enC M)),(2,.fn 45 []),(15,slV b 6 (enC L)),(16,.int .i64 (L.length:Int)),(17,.int .i64 (i:Int))]∧H=⟨[],0,[],0⟩)
    (fun k tm H hI=>Wp.drop ?_) L.length _ _ ⟨0,_,by omega,by simp,Zi ⟨rfl,rfl,rfl,Zj (by rw [e1]),rfl,trivial⟩,rfl⟩
   obtain ⟨i,base,hi,hI,rfl,rfl⟩:=hI
   clear hne
   by_cases hlt:i<L.length
   · have hlx : ZP E0 .lss 3 (.int .i64 (i : Int)) (.int .i64 (L.length : Int)) = some (.bool true) := X3 (by omega)
     obtain ⟨x,hx⟩:∃ x,L[i]? = some x:=⟨L[i],by simp⟩
     obtain ⟨y,hy⟩:∃ y,M[i]? = some y:=⟨M[i],by simp⟩
     have c1:=c45 (hL x (List.mem_of_getElem? hx)).1 (hM y (List.mem_of_getElem? hy)).1
     have j1:=WC hx
     have j2:=WC hy
     rw [Z0 hx,Z0 hy] at hI
     have hQ:enB (x::L.drop (i+1)) (y::M.drop (i+1))=(enQ x y&&enB (L.drop (i+1)) (M.drop (i+1))):=by
      simp only [enB,enQ,Bool.and_assoc]
     rw [hQ] at hI
     clear hQ
     generalize enQ x y=Q at c1 hI
     obtain ⟨nm,⟨k',m',s',tb',kz'⟩,i'⟩:=x
     obtain ⟨nm2,⟨k2,m2,s2,tb2,kz2⟩,i2⟩:=y
     simp only [En.cells,Tm.cells,List.cons_append,List.nil_append] at c1 j1 j2
     generalize enC L=LL at j1 e1 ⊢
     generalize enC M=MM at j2 e2 ⊢
     cases Q with
     | true =>
       rw [Bool.true_and] at hI
       repeat' first|refine Jc (c1 _) ?_|refine Ji ?_|refine Jx ?_|refine Jt ?_|refine Jo ?_|fail
       exact DropQ.go [(1,slV b' 6 MM),(2,.fn 45 []),(15,slV b 6 LL),(16,.int .i64 (L.length:Int)),(17,.int .i64 ((i+1:Nat):Int))] ⟨rfl,rfl,rfl,rfl,Zj (Zg (n:=i+1) (by omega)),trivial⟩
        (by simp [Zl,under,ZI]) rfl rfl (LoopI.go (k-1) (by omega) ⟨i+1,_,by omega,hI,rfl,rfl⟩)
     | false =>
       rw [Bool.false_and] at hI
       rw [hI]
       repeat' first|refine Jc (c1 _) ?_|refine Ji ?_|refine Jx ?_|refine Jt ?_|refine Jo ?_|fail
       all_goals rfl
   · have e : i = L.length := by omega
     have hlx:ZP E0 .lss 3 (.int .i64 (i:Int)) (.int .i64 (L.length:Int))=some (.bool false):=Xo (by omega)
     rw [e,List.drop_length,hlen,List.drop_length] at hI
     simp only [enB] at hI
     rw [hI]
     repeat' first|refine Ji ?_|refine Jt ?_|refine Jo ?_|fail
     all_goals rfl
 · rw [decide_eq_true (by omega)] at hne
   rw [ZeR hlen]
   repeat' first|refine Ji ?_|refine Jl ?_|refine Jt ?_|refine Jo ?_|fail
   all_goals rfl
def Zlh (key:Tm) (log:List Tm) (keys:List En):Bool:=match WZ key log 0 [] with
 |some L=>enB L keys
 |none=>false
def svP (s:Sv):Int:=if Xq s.name=false then 1 else if s.key.cmp (skT s.name)≠0 then 1 else if (Zy s.log).2≠0 then 1 else if (Z5 Tm.cl (Zy s.log).1.cl s.log.length s.key).2≠0 then 1 else if Zlh s.key s.log s.keys=false then 1 else 0
theorem Zfc {key:Tm}:∀ {log:List Tm} {i:Nat} {L L':List En},(∀ t,t∈log→t.Ok∧t.size≤900)→Us 900 L→UH L→WZ key log i L=some L'→Us 900 L'∧UH L'∧L'.length≤L.length+log.length
 | [], i, L, L', _, h, hO, e => by
   simp only [WZ,Option.some.injEq] at e
   subst e
   exact ⟨h,hO,by omega⟩
 | t :: r, i, L, L', hl, h, hO, e => by
   simp only [WZ] at e
   cases hs:XZ key i t L with
   | none=>rw [hs] at e;cases e
   | some L1 =>
     rw [hs] at e
     obtain ⟨q1,q2,q3⟩:=ZfW (hl t (by simp)).1 (hl t (by simp)).2 h hO hs
     obtain ⟨z1,z2,z3⟩:=Zfc (fun u hu=>hl u (by simp [hu])) q1 q2 e
     exact ⟨z1,z2,by simp only [List.length_cons];omega⟩
theorem c19 {s:Sv} (h:SvOk s):∀ H,CallOk E0 Tryz.prog 19 [.agg s.cells] H (.int .i64 (svP s)) H:=by
 have hfz:=Ze6 s
 have c1:=c17 s.name (by have:=h.n;omega)
 have c2:=c18 s.name
 have hsk:=ZaE h.n
 have c3:=c32 h.k hsk.1 (by have:=h.ks;omega) (by omega)
 have hlog:=fun t ht=>And.intro (h.l t ht) (h.ls t ht)
 have c4:=c26 (fun t ht=>⟨(hlog t ht).1,by have:=(hlog t ht).2;omega⟩) s.lb
 have hh:=Qz hlog
 have c5:=c27 (h:=(Zy s.log).1.cl) (Wi hh.1) (by rw [YN];have:=hh.2;omega) h.k (by have:=h.ks;omega) (s.log.length:Int)
 have c6:=c43 h.k h.ks hlog (by have:=h.ll;omega) s.lb
 have c7:∀ L,WZ s.key s.log 0 []=some L→∀ H,CallOk E0 Tryz.prog 44 [slV s.log.isEmpty 6 (enC L),slV s.kb 6 (enC s.keys),.fn 45 []] H (.bool (enB L s.keys)) H:=fun L e=>by
  obtain ⟨z1, -,z3⟩:=Zfc hlog (fun e he=>absurd he (by simp)) (fun i j a b _ h=>absurd h (by simp)) e
  exact c44 (fun e he=>⟨⟨(z1 e he).1.1,by have:=(z1 e he).1.2;omega⟩,(z1 e he).2⟩) (fun e he=>⟨⟨(h.e e he).1.1,by have:=(h.e e he).1.2;omega⟩,(h.e e he).2⟩) (by have:=h.ll;simp at z3;omega) _ _
 have hln:=Zb s.log
 have e4:=YF (Zy s.log).2
 have e5:=YF (Z5 Tm.cl (Zy s.log).1.cl s.log.length s.key).2
 unfold svP Zlh
 rw [← hln] at c5 e5 ⊢
 clear h hlog hh hsk
 generalize Z5 Tm.cl (Zy s.log).1.cl ((Za s.log).length:Int) s.key=SG at c5 e5 ⊢
 generalize Zy s.log=RH at c4 c5 e4 ⊢
 obtain ⟨RH,re⟩:=RH
 obtain ⟨SG,se⟩:=SG
 simp only [] at c4 c5 e4 e5 ⊢
 generalize RH.cl=RC at c4 c5
 generalize WZ s.key s.log 0 []=KP at c6 c7 ⊢
 obtain ⟨B2,hB2⟩:∃ B2,B2=decide (s.key.cmp (skT s.name)=0):=⟨_,rfl⟩
 rw [← hB2] at c3
 generalize s.log.isEmpty=le at c6 c7
 generalize skT s.name=SK at c2 c3 hB2 ⊢
 generalize Xq s.name=B1 at c1 ⊢
 obtain ⟨name,key,lb,log,kb,keys⟩:=s
 simp only [] at c1 c2 c3 c4 c5 c6 c7 hB2 ⊢
 cases B1 with
 | false =>
   rw [if_pos rfl]
   clear c7 e4 e5
   clear hB2
   obtain ⟨kk,knm,kks,kbb,kkids⟩:=key
   obtain ⟨k2,nm2,s2,b2,kz2⟩:=SK
   obtain ⟨k3,nm3,s3,b3,kz3⟩:=RC
   obtain ⟨k4,nm4,s4,b4,kz4⟩:=SG
   simp only [Sv.cells,Tm.cells,List.cons_append,List.nil_append] at c1 c2 c3 c4 c5 c6 hfz ⊢
   generalize Za log=LL at c4 c5 c6 hfz ⊢
   refine Jw tOk fe19.ok rfl ?_ hfz
   repeat' first|refine Jo ?_|(apply dK;rfl;rfl;rfl)|refine Jd (c1 _) ?_|(apply dT (ty:=4);rfl;rfl;rfl;rfl)|refine Jh ?_|(apply Wp.draw tOk follows;kernel_rfl)|fail
   all_goals rfl
 | true =>
   rw [if_neg (by simp)]
   cases B2 with
   | false =>
     rw [if_pos (of_decide_eq_false hB2.symm)]
     clear c7 e4 e5
     clear hB2
     obtain ⟨kk,knm,kks,kbb,kkids⟩:=key
     obtain ⟨k2,nm2,s2,b2,kz2⟩:=SK
     obtain ⟨k3,nm3,s3,b3,kz3⟩:=RC
     obtain ⟨k4,nm4,s4,b4,kz4⟩:=SG
     simp only [Sv.cells,Tm.cells,List.cons_append,List.nil_append] at c1 c2 c3 c4 c5 c6 hfz ⊢
     generalize Za log=LL at c4 c5 c6 hfz ⊢
     refine Jw tOk fe19.ok rfl ?_ hfz
     repeat' first|refine Jo ?_|(apply dCl;rfl;rfl;rfl;rfl;rfl;first|exact c1 _|exact c2 _|exact c3 _)|(apply dT (ty:=4);rfl;rfl;rfl;rfl)|(apply dF (ty:=4);rfl;rfl;rfl;rfl)|refine Jh ?_|(apply Wp.draw tOk follows;kernel_rfl)|fail
     all_goals rfl
   | true =>
     rw [if_neg (not_not_intro (of_decide_eq_true hB2.symm))]
     by_cases hre:re=0
     · rw [decide_eq_false (not_not_intro hre)] at e4
       rw [if_neg (not_not_intro hre)]
       by_cases hse:se=0
       · rw [decide_eq_false (not_not_intro hse)] at e5
         rw [if_neg (not_not_intro hse)]
         cases KP with
         | none =>
           simp only [if_true]
           simp only [kV] at c6
           clear c7
           clear hB2
           obtain ⟨kk,knm,kks,kbb,kkids⟩:=key
           obtain ⟨k2,nm2,s2,b2,kz2⟩:=SK
           obtain ⟨k3,nm3,s3,b3,kz3⟩:=RC
           obtain ⟨k4,nm4,s4,b4,kz4⟩:=SG
           simp only [Sv.cells,Tm.cells,List.cons_append,List.nil_append] at c1 c2 c3 c4 c5 c6 hfz ⊢
           generalize Za log=LL at c4 c5 c6 hfz ⊢
           refine Jw tOk fe19.ok rfl ?_ hfz
           repeat' first|refine Jk ?_|(apply qCl;rfl;rfl;rfl;rfl;first|exact c4 _|exact c5 _|exact c6 _)|refine Ji ?_|refine Jl ?_|refine Jt ?_|refine Jo ?_|(apply dCl;rfl;rfl;rfl;rfl;rfl;first|exact c1 _|exact c2 _|exact c3 _)|(apply dF (ty:=4);rfl;rfl;rfl;rfl)|refine Jh ?_|(apply Wp.draw tOk follows;kernel_rfl)|fail
           all_goals rfl
         | some L =>
           have c7:=c7 L rfl
           simp only [kV] at c6 ⊢
           show ∀ H,CallOk E0 Tryz.prog 19 [.agg (Sv.mk name key lb log kb keys).cells] H (.int .i64 (if enB L keys=false then 1 else 0)) H
           obtain ⟨E,hE⟩:∃ E,E=enB L keys:=⟨_,rfl⟩
           rw [← hE] at c7 ⊢
           clear hE
           generalize enC L=LE at c6 c7
           simp only [Sv.cells] at hfz ⊢
           generalize enC keys=KE at c7 hfz ⊢
           cases E
           all_goals simp only [if_true,Bool.true_eq_false,if_false]
           · have c7 := c7
             clear hB2
             obtain ⟨kk,knm,kks,kbb,kkids⟩:=key
             obtain ⟨k2,nm2,s2,b2,kz2⟩:=SK
             obtain ⟨k3,nm3,s3,b3,kz3⟩:=RC
             obtain ⟨k4,nm4,s4,b4,kz4⟩:=SG
             simp only [Tm.cells,List.cons_append,List.nil_append] at c1 c2 c3 c4 c5 c6 hfz ⊢
             generalize Za log=LL at c4 c5 c6 hfz ⊢
             refine Jw tOk fe19.ok rfl ?_ hfz
             repeat' first|(apply qCl;rfl;rfl;rfl;rfl;first|exact c4 _|exact c5 _|exact c6 _|exact c7 _)|refine Ji ?_|refine Jl ?_|refine Jt ?_|refine Jo ?_|(apply dCl;rfl;rfl;rfl;rfl;rfl;first|exact c1 _|exact c2 _|exact c3 _)|(apply dF (ty:=4);rfl;rfl;rfl;rfl)|refine Jh ?_|(apply Wp.draw tOk follows;kernel_rfl)|fail
             all_goals rfl
           · have c7 := c7
             clear hB2
             obtain ⟨kk,knm,kks,kbb,kkids⟩:=key
             obtain ⟨k2,nm2,s2,b2,kz2⟩:=SK
             obtain ⟨k3,nm3,s3,b3,kz3⟩:=RC
             obtain ⟨k4,nm4,s4,b4,kz4⟩:=SG
             simp only [Tm.cells,List.cons_append,List.nil_append] at c1 c2 c3 c4 c5 c6 hfz ⊢
             generalize Za log=LL at c4 c5 c6 hfz ⊢
             refine Jw tOk fe19.ok rfl ?_ hfz
             repeat' first|(apply qCl;rfl;rfl;rfl;rfl;first|exact c4 _|exact c5 _|exact c6 _|exact c7 _)|refine Ji ?_|refine Jl ?_|refine Jt ?_|refine Jo ?_|(apply dCl;rfl;rfl;rfl;rfl;rfl;first|exact c1 _|exact c2 _|exact c3 _)|(apply dF (ty:=4);rfl;rfl;rfl;rfl)|refine Jh ?_|(apply Wp.draw tOk follows;kernel_rfl)|fail
             all_goals rfl
       · rw [decide_eq_true hse] at e5
         rw [if_pos hse]
         clear c7
         clear hB2
         obtain ⟨kk,knm,kks,kbb,kkids⟩:=key
         obtain ⟨k2,nm2,s2,b2,kz2⟩:=SK
         obtain ⟨k3,nm3,s3,b3,kz3⟩:=RC
         obtain ⟨k4,nm4,s4,b4,kz4⟩:=SG
         simp only [Sv.cells,Tm.cells,List.cons_append,List.nil_append] at c1 c2 c3 c4 c5 c6 hfz ⊢
         generalize Za log=LL at c4 c5 c6 hfz ⊢
         refine Jw tOk fe19.ok rfl ?_ hfz
         repeat' first|refine Jc (c4 _) ?_|refine Jc (c5 _) ?_|refine Ji ?_|refine Jl ?_|refine Jo ?_|(apply dCl;rfl;rfl;rfl;rfl;rfl;first|exact c1 _|exact c2 _|exact c3 _)|(apply dF (ty:=4);rfl;rfl;rfl;rfl)|refine Jh ?_|(apply Wp.draw tOk follows;kernel_rfl)|fail
         all_goals rfl
     · rw [decide_eq_true hre] at e4
       rw [if_pos hre]
       clear c7 e5
       clear hB2
       obtain ⟨kk,knm,kks,kbb,kkids⟩:=key
       obtain ⟨k2,nm2,s2,b2,kz2⟩:=SK
       obtain ⟨k3,nm3,s3,b3,kz3⟩:=RC
       obtain ⟨k4,nm4,s4,b4,kz4⟩:=SG
       simp only [Sv.cells,Tm.cells,List.cons_append,List.nil_append] at c1 c2 c3 c4 c5 c6 hfz ⊢
       generalize Za log=LL at c4 c5 c6 hfz ⊢
       refine Jw tOk fe19.ok rfl ?_ hfz
       repeat' first|refine Jc (c4 _) ?_|refine Ji ?_|refine Jo ?_|(apply dCl;rfl;rfl;rfl;rfl;rfl;first|exact c1 _|exact c2 _|exact c3 _)|(apply dF (ty:=4);rfl;rfl;rfl;rfl)|refine Jh ?_|(apply Wp.draw tOk follows;kernel_rfl)|fail
       all_goals rfl
