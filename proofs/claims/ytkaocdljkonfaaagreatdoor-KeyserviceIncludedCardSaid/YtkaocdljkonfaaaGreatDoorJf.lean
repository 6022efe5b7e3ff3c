/-
  The validity of a service: the document's function. The validity of a service, by the program's text.
-/
import Derived.Test.YtkaocdljkonfaaaGreatDoorHe
set_option maxHeartbeats 64000000
set_option maxRecDepth 100000
namespace Go.Vm.Seat
variable {s:Sv}
open Go.Proofs
theorem Zcl (s:Sv):ZC [.agg s.cells]=some [.agg s.cells]:=by
 obtain ⟨name,⟨k,nm,z,b,kids⟩,lb,log,kb,keys⟩:=s
 simp only [Sv.cells,Tm.cells,List.cons_append,List.nil_append,ZC,frzG,Xm,Zu]
 rfl
theorem c14 (h:SvOk s):∀ H,CallOk E0 Tryz.prog 14 [.agg s.cells] H (.int .i64 (svV s)) H:=by
 have hfz:=Zcl s
 have c1:=c37 s.name (by have:=h.n;omega)
 have c2:=c38 s.name
 have hsk:=Ua h.n
 have c3:=c23 h.k hsk.1 (by have:=h.ks;omega) (by omega)
 have hlog:=fun t ht=>And.intro (h.l t ht) (h.ls t ht)
 have c5:=c46 hlog s.lb h.k h.ks
 have c6:=c47 h.l h.ls h.ll s.lb
 have c4:=fun (i:Nat) (t:Tm) (ht:s.log[i]? = some t)=>c45 (l:=s.log.take i) (fun u hu=>h.l u (List.mem_of_mem_take hu)) (fun u hu=>h.ls u (List.mem_of_mem_take hu)) (by have:=h.ll;rw [List.length_take];omega) false (h.l t (List.mem_of_getElem? ht)) (h.ls t (List.mem_of_getElem? ht)) h.k h.ks
 have hK:=QY (S:=900) (by omega) hlog s.log.length
 have hKl:=Vs s.log s.log.length
 have hE:=h.e
 have hEl:=h.el
 have hll:=h.ll
 have h1:=Zb s.log
 obtain ⟨V,hV⟩:∃ V,V=svV s:=⟨_,rfl⟩
 rw [← hV]
 unfold svV at hV
 clear h hlog
 obtain ⟨name,key,lb,log,kb,keys⟩:=s
 simp only [Sv.cells] at hfz c1 c2 c3 c4 c5 c6 hK hKl hE hEl hll h1 hV ⊢
 generalize skT name=SK at c2 c3 hV hsk
 obtain ⟨B2,hB2⟩:∃ B2,B2=decide (key.cmp SK=0):=⟨_,rfl⟩
 rw [← hB2] at c3
 obtain ⟨B3,hB3⟩:∃ B3,B3=decide (32<log.length):=⟨_,rfl⟩
 have e3:ZV E0 .gtr 3 (.int .i64 ((Za log).length:Int)) (.int .i64 32)=some (.bool B3):=by
  show some (PV.bool (decide ((32:Int)<((Za log).length:Int))))=_
  rw [hB3,h1]
  congr 2
  rw [decide_eq_decide]
  omega
 obtain ⟨B1,hB1⟩:∃ B1,B1=Y6 name:=⟨_,rfl⟩
 rw [← hB1] at c1 hV
 obtain ⟨ks,nms,ss,bs,kidss⟩:=SK
 have hkey:=key
 by_cases hgo:B1=true∧B2=true∧B3=false
 · obtain ⟨rfl, rfl, rfl⟩ := hgo
   have q2:¬ key.cmp (.mk ks nms ss bs kidss)≠0:=fun e=>by simp [e] at hB2
   have q3:¬ 32<log.length:=fun e=>by simp [e] at hB3
   simp only [Bool.true_eq_false,if_false,if_neg q2,if_neg q3] at hV
   clear hB1 hB2 hB3 q2 hsk
   have c4':∀ (i:Nat) (t:Tm),log[i]? = some t→∀ H,CallOk E0 Tryz.prog 45 [.sl .none 4 (Za (log.take i)),.agg t.cells,.agg key.cells] H (.bool (Za3 (log.take i) t key)) H:=fun i t ht=>by
    have:=c4 i t ht
    rw [Z1] at this
    exact this
   clear c4
   obtain ⟨F,hF⟩:∃ F:List Tm→Tm→Bool,F=fun l t=>Za3 l t key:=⟨_,rfl⟩
   have hFi:∀ i m,ZhD log key i m=match m with|0=>true|m+1=>match log[i]? with|some t=>F (log.take i) t&&ZhD log key (i+1) m|none=>true:=fun i m=>by
    subst hF
    cases m<;>rfl
   have c4:∀ (i:Nat) (t:Tm),log[i]? = some t→∀ H,CallOk E0 Tryz.prog 45 [.sl .none 4 (Za (log.take i)),.agg t.cells,.agg key.cells] H (.bool (F (log.take i) t)) H:=by
    rw [hF]
    exact c4'
   clear c4' hF
   generalize ZhD log key=G at hFi hV
   generalize Wv log key=HV at c5 hV
   obtain ⟨X,Y,ok⟩:=HV
   obtain ⟨k,nm,z,kb',kids⟩:=key
   obtain ⟨kx,nmx,zx,bx,kidsx⟩:=X
   obtain ⟨ky,nmy,zy,by',kidsy⟩:=Y
   simp only [Tm.cells,List.cons_append,List.nil_append] at hfz c1 c2 c3 c4 c5 ⊢
   refine Jw tOk fe14.ok rfl ?_ hfz
   repeat' first|refine Jo ?_|(apply dCl;rfl;rfl;rfl;rfl;rfl;first|exact c1 _|exact c2 _|exact c3 _)|refine JD ?_|(apply dLn;rfl;rfl;rfl;rfl;rfl)|(apply dF (ty:=4);rfl;rfl;rfl;rfl)|refine Jh ?_|(apply Wp.draw tOk follows;kernel_rfl)|fail
   clear c1 c2 c3 e3 hfz
   refine Wp.while (fun m tm H=>∃ (i:Nat) (base:TM),i+m=log.length∧G 0 log.length=G i m∧tm=ovr base [(1,.ptr 0 7 0 0),(3,.int .i64 (i:Int))]∧H=⟨[.cells 7 [[.str name,.int .i64 k,.str nm,.int .i64 z,slV kb' 4 (Za kids),slV lb 4 (Za log),slV kb 6 (enC keys)]]],0,[],0⟩)
    (fun m tm H hI=>?_) log.length _ _ ⟨0,_,by omega,rfl,Zi ⟨rfl,rfl,trivial⟩,rfl⟩
   obtain ⟨i,base,hi,hI,rfl,rfl⟩:=hI
   by_cases hlt:i<log.length
   · obtain ⟨m', rfl⟩ : ∃ m', m = m' + 1 := ⟨m - 1, by omega⟩
     obtain ⟨t,ht⟩:∃ t,log[i]? = some t:=⟨log[i],by simp⟩
     have hlx:ZV E0 .lss 3 (.int .i64 (i:Int)) (.int .i64 ((Za log).length:Int))=some (.bool true):=We (by omega)
     have hcc:=c4 i t ht
     have hne:log≠ []:=fun e=>by rw [e] at hlt;simp at hlt
     have hp:=ZpY lb hne (k:=i) (by omega)
     rw [hFi i (m'+1)] at hI
     simp only [ht] at hI
     generalize F (log.take i) t=D at hcc hI
     obtain ⟨kt,nmt,zt,bt,kidst⟩:=t
     have hj:=Zk ht
     simp only [Tm.cells] at hcc
     cases D with
     | true =>
       simp only [Bool.true_and] at hI
       repeat' first|refine Ji ?_|refine Jl ?_|refine Jo ?_|refine Jd (hcc _) ?_|(apply dSl;rfl;rfl;rfl;rfl;rfl;rfl;assumption;exact IsV.any _;rfl)|refine JI ?_|(apply dF (ty:=4);rfl;rfl;rfl;rfl)|refine Jh ?_|(apply Wp.draw tOk follows;kernel_rfl)|fail
       exact LoopI.go m' (by omega) ⟨i+1,_,by omega,hI,Zi ⟨rfl,Zh (Ze (n:=i+1) (by omega)),trivial⟩,rfl⟩
     | false =>
       simp only [Bool.false_and] at hI
       rw [if_pos hI] at hV
       subst hV
       repeat' first|refine Ji ?_|refine Jl ?_|refine Jo ?_|refine Jd (hcc _) ?_|(apply dSl;rfl;rfl;rfl;rfl;rfl;rfl;assumption;exact IsV.any _;rfl)|refine JI ?_|(apply dT (ty:=4);rfl;rfl;rfl;rfl)|refine Jh ?_|(apply Wp.draw tOk follows;kernel_rfl)|fail
       all_goals rfl
   · obtain rfl : m = 0 := by omega
     have e:i=log.length:=by omega
     subst e
     rw [hFi log.length 0] at hI
     rw [if_neg (by rw [hI];simp)] at hV
     have hlx:ZV E0 .lss 3 (.int .i64 (log.length:Int)) (.int .i64 ((Za log).length:Int))=some (.bool false):=XS (by omega)
     clear c4 hFi hI
     cases ok with
     | false =>
       rw [if_pos rfl] at hV
       subst hV
       repeat' first|refine Jc (c5 _) ?_|refine Ji ?_|refine Jl ?_|refine Jt ?_|refine Jo ?_|fail
       all_goals rfl
     | true =>
       rw [if_neg (by simp)] at hV
       generalize YF log log.length=K at c6 hK hKl hV
       have h2:=Z6 K
       have h3:=Z6 keys
       by_cases hle:K.length=keys.length
       · have en : ZV E0 .neq 3 (.int .i64 ((enC K).length : Int)) (.int .i64 ((enC keys).length : Int)) = some (.bool false) := ZiK (by rw [h2, h3, hle])
         repeat' first|refine Jc (c5 _) ?_|refine Jc (c6 _) ?_|refine Ji ?_|refine Jl ?_|refine Jt ?_|refine Jo ?_|fail
         refine Wp.while (fun m tm H=>∃ (i:Nat) (base:TM),i+m=K.length∧enB K keys=enB (K.drop i) (keys.drop i)∧tm=ovr base [(1,.ptr 0 7 0 0),(7,slV true 6 (enC K)),(8,.int .i64 (i:Int))]∧H=⟨[.cells 7 [[.str name,.int .i64 k,.str nm,.int .i64 z,slV kb' 4 (Za kids),slV lb 4 (Za log),slV kb 6 (enC keys)]],.cells 4 [[.int .i64 kx,.str nmx,.int .i64 zx,slV bx 4 (Za kidsx)]],.cells 4 [[.int .i64 ky,.str nmy,.int .i64 zy,slV by' 4 (Za kidsy)]]],0,[],0⟩)
          (fun m tm H hI=>?_) K.length _ _ ⟨0,_,by omega,by simp,Zi ⟨rfl,rfl,rfl,trivial⟩,rfl⟩
         clear en hlx c5 c6
         obtain ⟨i,base,hi,hI,rfl,rfl⟩:=hI
         by_cases hlt:i<K.length
         · obtain ⟨e, he⟩ : ∃ e, K[i]? = some e := ⟨K[i], by simp⟩
           obtain ⟨e',he'⟩:∃ e',keys[i]? = some e':=⟨keys[i]'(by omega),by simp⟩
           have hlx:ZV E0 .lss 3 (.int .i64 (i:Int)) (.int .i64 ((enC K).length:Int))=some (.bool true):=We (by omega)
           have o1:=hK e (List.mem_of_getElem? he)
           have o2:=hE e' (List.mem_of_getElem? he')
           have hs:=c23 o1.1.1 o2.1.1 (by have:=o1.1.2;omega) (by have:=o2.1.2;omega)
           rw [ZM he,ZM he'] at hI
           simp only [enB] at hI
           have b1:=ZhE e.name e'.name
           have b2:=Zkv e.idx e'.idx
           have hj1:=Xv he
           have hj2:=Xv he'
           have hlz:i<(enC K).length:=by omega
           have hlz2:i<(enC keys).length:=by omega
           generalize decide (e.key.cmp e'.key=0)=D at hs hI
           obtain ⟨N1,hN1⟩:∃ N1,N1=decide (e.name≠e'.name):=⟨_,rfl⟩
           obtain ⟨N2,hN2⟩:∃ N2,N2=decide (e.idx≠e'.idx):=⟨_,rfl⟩
           rw [← hN1] at b1
           rw [← hN2] at b2
           have x1:decide (e.name=e'.name)= !N1:=by rw [hN1];by_cases q:e.name=e'.name<;>simp [q]
           have x2:decide (e.idx=e'.idx)= !N2:=by rw [hN2];by_cases q:e.idx=e'.idx<;>simp [q]
           rw [x1,x2] at hI
           clear x1 x2 hN1 hN2 o1 o2 hK hE
           obtain ⟨na,⟨k1,n1,z1,t1,q1⟩,ia⟩:=e
           obtain ⟨nb,⟨k2,n2,z2,t2,q2⟩,ib⟩:=e'
           simp only [En.cells,Tm.cells,List.cons_append,List.nil_append] at hj1 hj2 hs b1 b2
           have hO:(N1=false∧N2=false∧D=true)∨(N1=true)∨(N1=false∧N2=true)∨(N1=false∧N2=false∧D=false):=by
            cases N1<;>cases N2<;>cases D<;>simp
           rcases hO with ⟨rfl,rfl,rfl⟩|hO
           · simp only [Bool.not_false, Bool.true_and] at hI
             repeat' first|refine Ji ?_|refine Jl ?_|refine Jo ?_|refine Jd (hs _) ?_|refine JD ?_|refine JI ?_|(apply dF (ty:=4);rfl;rfl;rfl;rfl)|refine Jh ?_|(apply Wp.draw tOk follows;kernel_rfl)|fail
             exact LoopI.go (m-1) (by omega) ⟨i+1,_,by omega,hI,Zi ⟨rfl,rfl,Zh (Ze (n:=i+1) (by omega)),trivial⟩,rfl⟩
           · have hv : V = 1 := by
               rw [hV,hI]
               rcases hO with rfl|⟨rfl,rfl⟩|⟨rfl,rfl,rfl⟩<;>simp
             subst hv
             clear hI hV
             rcases hO with rfl|⟨rfl,rfl⟩|⟨rfl,rfl,rfl⟩
             all_goals
              repeat' first|refine Ji ?_|refine Jl ?_|refine Jo ?_|(apply dK;rfl;rfl;rfl)|refine Jd (hs _) ?_|refine JD ?_|refine JI ?_|(apply dT (ty:=4);rfl;rfl;rfl;rfl)|(apply dF (ty:=4);rfl;rfl;rfl;rfl)|refine Jh ?_|(apply Wp.draw tOk follows;kernel_rfl)|fail
             all_goals rfl
         · have e : i = K.length := by omega
           subst e
           rw [List.drop_length,hle,List.drop_length] at hI
           rw [if_neg (by rw [hI];simp [enB])] at hV
           subst hV
           have hlx:ZV E0 .lss 3 (.int .i64 (K.length:Int)) (.int .i64 ((enC K).length:Int))=some (.bool false):=XS (by omega)
           repeat' first|refine Ji ?_|refine Jl ?_|refine Jo ?_|fail
           all_goals rfl
       · rw [if_pos (Ze8 hle)] at hV
         subst hV
         have en:ZV E0 .neq 3 (.int .i64 ((enC K).length:Int)) (.int .i64 ((enC keys).length:Int))=some (.bool true):=ZiH (by rw [h2,h3];omega)
         repeat' first|refine Jc (c5 _) ?_|refine Jc (c6 _) ?_|refine Ji ?_|refine Jl ?_|refine Jt ?_|refine Jo ?_|fail
         all_goals rfl
 · have hv1 : V = 1 := by
     rw [hV]
     cases B1 with
     | false=>rfl
     | true =>
       cases B2 with
       | false =>
         have:key.cmp (.mk ks nms ss bs kidss)≠0:=of_decide_eq_false hB2.symm
         simp [this]
       | true =>
         cases B3 with
         | false=>exact absurd ⟨rfl,rfl,rfl⟩ hgo
         | true =>
           have q2:¬ key.cmp (.mk ks nms ss bs kidss)≠0:=fun e=>by simp [e] at hB2
           have q3:32<log.length:=of_decide_eq_true hB3.symm
           simp only [Bool.true_eq_false,if_false,if_neg q2,if_pos q3]
   subst hv1
   clear hV c4 c5 c6 hK hKl hE
   obtain ⟨k,nm,z,kb',kids⟩:=key
   simp only [Tm.cells,List.cons_append,List.nil_append] at hfz c1 c2 c3 ⊢
   have hO:B1=false∨(B1=true∧B2=false)∨(B1=true∧B2=true∧B3=true):=by
    revert hgo
    cases B1<;>cases B2<;>cases B3<;>simp
   clear hgo hB1 hB2 hB3
   rcases hO with rfl|⟨rfl,rfl⟩|⟨rfl,rfl,rfl⟩
   all_goals
    refine Jw tOk fe14.ok rfl ?_ hfz
    repeat' first|refine Jo ?_|(apply dK;rfl;rfl;rfl)|(apply dCl;rfl;rfl;rfl;rfl;rfl;first|exact c1 _|exact c2 _|exact c3 _)|refine JD ?_|(apply dLn;rfl;rfl;rfl;rfl;rfl)|(apply dT (ty:=4);rfl;rfl;rfl;rfl)|(apply dF (ty:=4);rfl;rfl;rfl;rfl)|refine Jh ?_|(apply Wp.draw tOk follows;kernel_rfl)|fail
   all_goals rfl
open Go.Proofs
theorem ZnH:∀ (s:Bs) (k:Nat),decide (0≤V3 s 35 k)=s.any fun c=>c==35
 | [],k=>by simp [V3]
 | b :: r, k => by
   rw [List.any_cons]
   by_cases h:(b.toNat:Int)=35
   · have hb : b = 35 := ZiU (by simpa using h)
     have e:V3 (b::r) 35 k=(k:Int):=by simp only [V3,if_pos h]
     rw [e,hb]
     simp
   · have hb : (b == 35) = false := by
       simp only [beq_eq_false_iff_ne]
       intro e
       subst e
       exact h rfl
     have e:V3 (b::r) 35 k=V3 r 35 (k+1):=by simp only [V3,if_neg h]
     rw [e,hb,Bool.false_or]
     exact ZnH r (k+1)
theorem ZoG (s:Bs) (H:Heap):CallOk E0 Tryz.prog 242 [.str s,.int .u8 35] H (.int .i64 (V3 s 35 0)) H:=(ZpS [.str s,.int .u8 35] H _ _ rfl).1
theorem ZqI (s:Bs):∀ H,CallOk E0 Tryz.prog 210 [.str s,.int .u8 35] H (.int .i64 (V3 s 35 0)) H:=by
 refine Jw tOk fe210.ok rfl ?_
 repeat' first|refine Jc (ZoG s _) ?_|refine Jo ?_|fail
 all_goals rfl
theorem Ztm (s:Bs):∀ H,CallOk E0 Tryz.prog 169 [.str s,.str [35]] H (.int .i64 (V3 s 35 0)) H:=by
 refine Jw tOk fe169.ok rfl ?_
 repeat' first|refine Jc (ZqI _ _) ?_|refine Jt ?_|refine Jb ?_ ?_|refine Jo ?_|intro hb
 · simp at hb
   subst hb
   rfl
 · rfl
theorem Zp4 (s:Bs):∀ H,CallOk E0 Tryz.prog 125 [.str s,.str [35]] H (.int .i64 (V3 s 35 0)) H:=by
 refine Jw tOk fe125.ok rfl ?_
 repeat' first|refine Jc (Ztm _ _) ?_|refine Jo ?_|fail
 all_goals rfl
theorem c75 (s:Bs):∀ H,CallOk E0 Tryz.prog 75 [.str s,.str [35]] H (.bool (s.any fun c=>c==35)) H:=by
 have h:=ZnH s 0
 have hc:=Zp4 s
 have e:((0:Nat):Int)=0:=rfl
 rw [← h]
 have hg:ZV E0 .geq 3 (.int .i64 (V3 s 35 0)) (.int .i64 0)=some (.bool (decide (0≤V3 s 35 0))):=rfl
 clear h e
 generalize decide (0≤V3 s 35 0)=D at hg ⊢
 generalize V3 s 35 0=I at hc hg
 refine Jw tOk fe75.ok rfl ?_
 repeat' first|refine Jc (hc _) ?_|refine Ji ?_|refine Jt ?_|refine Jo ?_|fail
 all_goals rfl
theorem Zg5 (s:Bs):(Tm.mk 2 s 0 true []).valid=if VH s=true then 0 else 2:=by
 unfold Tm.valid
 simp only [Tm.nodes,XB,WZ,Tm.size,Zz,Tm.depth,Y7,List.length_nil]
 cases VH s<;>simp
theorem c35 (s:Bs) (hs:s.length≤1000):∀ H,CallOk E0 Tryz.prog 35 [.str s] H (.bool (Y6 s)) H:=by
 have hok:(Tm.mk 2 s 0 true []).Ok:= .mk (by decide) (by decide) (by unfold maxLen;omega) (by unfold maxLen;decide) (by simp)
 have c1:=c74 hok (by simp [Tm.size,Zz])
 have c2:=c75 s
 rw [Zg5] at c1
 have ec:(Tm.mk 2 s 0 true []).cells= [.int .i64 2,.str s,.int .i64 0,.nils]:=by simp only [Tm.cells,Za,Zq]
 rw [ec] at c1
 unfold Y6
 generalize VH s=N at c1 ⊢
 generalize (s.any fun c=>c==35)=D at c2 ⊢
 clear hok ec hs
 cases N<;>cases D
 all_goals simp only [if_true,Bool.false_eq_true,if_false] at c1
 all_goals
  refine Jw tOk fe35.ok rfl ?_
  repeat' first|refine Jk ?_|refine Jc (c1 _) ?_|refine Jc (c2 _) ?_|refine Jt ?_|refine Jo ?_|fail
 all_goals rfl
theorem c36 (name:Bs):∀ H,CallOk E0 Tryz.prog 36 [.str name] H (.agg (skT name).cells) H:=by
 have e:(skT name).cells= [.int .i64 3,.str [115,107],.int .i64 0,.sl .none 4 [[.int .i64 2,.str name,.int .i64 1,.nils]]]:=by
  simp only [skT,Tm.cells,Za,Zw,Zq]
 rw [e]
 refine Jw tOk fe36.ok rfl ?_
 repeat' first|refine Js ?_|refine Jo ?_|fail
 all_goals rfl
def enQ (a b:En):Bool:=decide (a.name=b.name)&&(decide (a.idx=b.idx)&&decide (a.key.cmp b.key=0))
theorem Zqg (a b:En):ZC [.agg a.cells,.agg b.cells]=some [.agg a.cells,.agg b.cells]:=by
 obtain ⟨nm,⟨k,m,s,tb,kids⟩,i⟩:=a
 obtain ⟨nm',⟨k',m',s',tb',kids'⟩,i'⟩:=b
 simp only [En.cells,Tm.cells,List.cons_append,List.nil_append,ZC,frzG,Xm,Zu]
 rfl
theorem c44 {a b:En} (ha:a.key.Ok∧a.key.size≤90000) (hb:b.key.Ok∧b.key.size≤90000):∀ H,CallOk E0 Tryz.prog 44 [.agg a.cells,.agg b.cells] H (.bool (enQ a b)) H:=by
 have c1:=c39 ha.1 hb.1 (by have:=ha.2;omega) (by have:=hb.2;omega)
 have e1:ZV E0 .eql 9 (.str a.name) (.str b.name)=some (.bool (decide (a.name=b.name))):=by
  show some (PV.bool (a.name==b.name))=_
  by_cases h:a.name=b.name<;>simp [h]
 have e2:=Zqv a.idx b.idx
 have hfz:=Zqg a b
 unfold enQ
 clear ha hb
 generalize decide (a.name=b.name)=A at e1 ⊢
 generalize decide (a.idx=b.idx)=B at e2 ⊢
 generalize decide (a.key.cmp b.key=0)=C at c1 ⊢
 obtain ⟨nm,⟨k,m,s,tb,kids⟩,i⟩:=a
 obtain ⟨nm',⟨k',m',s',tb',kids'⟩,i'⟩:=b
 simp only [En.cells,Tm.cells,List.cons_append,List.nil_append] at c1 e1 e2 hfz ⊢
 cases A<;>cases B<;>cases C
 all_goals
  refine Jw tOk fe44.ok rfl ?_ hfz
  repeat' first|refine Jk ?_|refine Jc (c1 _) ?_|refine Ji ?_|refine Jt ?_|refine Jo ?_|fail
 all_goals rfl
theorem c43 {L M:List En} (hL:Wz 90000 L) (hM:Wz 90000 M) (hl:L.length≤1000) (b b':Bool):∀ H,CallOk E0 Tryz.prog 43 [slV b 6 (enC L),slV b' 6 (enC M),.fn 44 []] H (.bool (enB L M)) H:=by
 have e1:=Z6 L
 have e2:=Z6 M
 have hne:=Zru ((enC L).length:Int) ((enC M).length:Int)
 refine Jw tOk fe43.ok rfl ?_
 by_cases hlen:L.length=M.length
 · rw [decide_eq_false (by omega)] at hne
   repeat' first|refine Ji ?_|refine Jl ?_|refine Jt ?_|refine Jo ?_|fail
   refine Wp.while (fun k tm H=>∃ (i:Nat) (base:TM),i+k=L.length∧enB L M=enB (L.drop i) (M.drop i)∧tm=ovr base [(1,slV b' 6 (enC M)),(2,.fn 44 []),(15,slV b 6 (enC L)),(16,.int .i64 (L.length:Int)),(17,.int .i64 (i:Int))]∧H=⟨[],0,[],0⟩)
    (fun k tm H hI=>Wp.drop ?_) L.length _ _ ⟨0,_,by omega,by simp,Zi ⟨rfl,rfl,rfl,Zh (by rw [e1]),rfl,trivial⟩,rfl⟩
   obtain ⟨i,base,hi,hI,rfl,rfl⟩:=hI
   clear hne
   by_cases hlt:i<L.length
   · have hlx : ZV E0 .lss 3 (.int .i64 (i : Int)) (.int .i64 (L.length : Int)) = some (.bool true) := We (by omega)
     obtain ⟨x,hx⟩:∃ x,L[i]? = some x:=⟨L[i],by simp⟩
     obtain ⟨y,hy⟩:∃ y,M[i]? = some y:=⟨M[i],by simp⟩
     have c1:=c44 (hL x (List.mem_of_getElem? hx)).1 (hM y (List.mem_of_getElem? hy)).1
     have j1:=Xv hx
     have j2:=Xv hy
     rw [ZM hx,ZM hy] at hI
     have hQ:enB (x::L.drop (i+1)) (y::M.drop (i+1))=(enQ x y&&enB (L.drop (i+1)) (M.drop (i+1))):=by
      simp only [enB,enQ,Bool.and_assoc]
     rw [hQ] at hI
     clear hQ
     generalize enQ x y=Q at c1 hI
     obtain ⟨nm,⟨k',m',s',tb',kids'⟩,i'⟩:=x
     obtain ⟨nm2,⟨k2,m2,s2,tb2,kids2⟩,i2⟩:=y
     simp only [En.cells,Tm.cells,List.cons_append,List.nil_append] at c1 j1 j2
     generalize enC L=LL at j1 e1 ⊢
     generalize enC M=MM at j2 e2 ⊢
     cases Q with
     | true =>
       rw [Bool.true_and] at hI
       repeat' first|refine Jc (c1 _) ?_|refine Ji ?_|refine Jx ?_|refine Jt ?_|refine Jo ?_|fail
       exact DropQ.go [(1,slV b' 6 MM),(2,.fn 44 []),(15,slV b 6 LL),(16,.int .i64 (L.length:Int)),(17,.int .i64 ((i+1:Nat):Int))] ⟨rfl,rfl,rfl,rfl,Zh (Ze (n:=i+1) (by omega)),trivial⟩
        (by simp [Zm,under,ZH]) rfl rfl (LoopI.go (k-1) (by omega) ⟨i+1,_,by omega,hI,rfl,rfl⟩)
     | false =>
       rw [Bool.false_and] at hI
       rw [hI]
       repeat' first|refine Jc (c1 _) ?_|refine Ji ?_|refine Jx ?_|refine Jt ?_|refine Jo ?_|fail
       all_goals rfl
   · have e : i = L.length := by omega
     have hlx:ZV E0 .lss 3 (.int .i64 (i:Int)) (.int .i64 (L.length:Int))=some (.bool false):=XS (by omega)
     rw [e,List.drop_length,hlen,List.drop_length] at hI
     simp only [enB] at hI
     rw [hI]
     repeat' first|refine Ji ?_|refine Jt ?_|refine Jo ?_|fail
     all_goals rfl
 · rw [decide_eq_true (by omega)] at hne
   rw [Ze8 hlen]
   repeat' first|refine Ji ?_|refine Jl ?_|refine Jt ?_|refine Jo ?_|fail
   all_goals rfl
def ZkC (key:Tm) (log:List Tm) (keys:List En):Bool:=match WU key log 0 [] with
 |some L=>enB L keys
 |none=>false
def svP (s:Sv):Int:=if Y6 s.name=false then 1 else if s.key.cmp (skT s.name)≠0 then 1 else if (ZS s.log).2≠0 then 1 else if (Yw Tm.cl (ZS s.log).1.cl s.log.length s.key).2≠0 then 1 else if ZkC s.key s.log s.keys=false then 1 else 0
theorem Zgb {key:Tm}:∀ {log:List Tm} {i:Nat} {L L':List En},(∀ t,t∈log→t.Ok∧t.size≤900)→Wz 900 L→Vo L→WU key log i L=some L'→Wz 900 L'∧Vo L'∧L'.length≤L.length+log.length
 | [], i, L, L', _, h, hO, e => by
   simp only [WU,Option.some.injEq] at e
   subst e
   exact ⟨h,hO,by omega⟩
 | t :: r, i, L, L', hl, h, hO, e => by
   simp only [WU] at e
   cases hs:X4 key i t L with
   | none=>rw [hs] at e;cases e
   | some L1 =>
     rw [hs] at e
     obtain ⟨q1,q2,q3⟩:=Zgr (hl t (by simp)).1 (hl t (by simp)).2 h hO hs
     obtain ⟨z1,z2,z3⟩:=Zgb (fun u hu=>hl u (by simp [hu])) q1 q2 e
     exact ⟨z1,z2,by simp only [List.length_cons];omega⟩
theorem c13 (h:SvOk s):∀ H,CallOk E0 Tryz.prog 13 [.agg s.cells] H (.int .i64 (svP s)) H:=by
 have hfz:=Zcl s
 have c1:=c35 s.name (by have:=h.n;omega)
 have c2:=c36 s.name
 have hsk:=Ua h.n
 have c3:=c39 h.k hsk.1 (by have:=h.ks;omega) (by omega)
 have hlog:=fun t ht=>And.intro (h.l t ht) (h.ls t ht)
 have c4:=c40 (fun t ht=>⟨(hlog t ht).1,by have:=(hlog t ht).2;omega⟩) s.lb
 have hh:=Zbw hlog
 have c5:=c41 (h:=(ZS s.log).1.cl) (Vi hh.1) (by rw [YK];have:=hh.2;omega) h.k (by have:=h.ks;omega) (s.log.length:Int)
 have c6:=c42 h.k h.ks hlog (by have:=h.ll;omega) s.lb
 have c7:∀ L,WU s.key s.log 0 []=some L→∀ H,CallOk E0 Tryz.prog 43 [slV s.log.isEmpty 6 (enC L),slV s.kb 6 (enC s.keys),.fn 44 []] H (.bool (enB L s.keys)) H:=fun L e=>by
  obtain ⟨z1, -,z3⟩:=Zgb hlog (fun e he=>absurd he (by simp)) (fun i j a b _ h=>absurd h (by simp)) e
  exact c43 (fun e he=>⟨⟨(z1 e he).1.1,by have:=(z1 e he).1.2;omega⟩,(z1 e he).2⟩) (fun e he=>⟨⟨(h.e e he).1.1,by have:=(h.e e he).1.2;omega⟩,(h.e e he).2⟩) (by have:=h.ll;simp at z3;omega) _ _
 have hln:=Zb s.log
 have e4:=Ye (ZS s.log).2
 have e5:=Ye (Yw Tm.cl (ZS s.log).1.cl s.log.length s.key).2
 unfold svP ZkC
 rw [← hln] at c5 e5 ⊢
 clear h hlog hh hsk
 generalize Yw Tm.cl (ZS s.log).1.cl ((Za s.log).length:Int) s.key=SG at c5 e5 ⊢
 generalize ZS s.log=RH at c4 c5 e4 ⊢
 obtain ⟨RH,re⟩:=RH
 obtain ⟨SG,se⟩:=SG
 simp only [] at c4 c5 e4 e5 ⊢
 generalize RH.cl=RC at c4 c5
 generalize WU s.key s.log 0 []=KP at c6 c7 ⊢
 obtain ⟨B2,hB2⟩:∃ B2,B2=decide (s.key.cmp (skT s.name)=0):=⟨_,rfl⟩
 rw [← hB2] at c3
 generalize s.log.isEmpty=le at c6 c7
 generalize skT s.name=SK at c2 c3 hB2 ⊢
 generalize Y6 s.name=B1 at c1 ⊢
 obtain ⟨name,key,lb,log,kb,keys⟩:=s
 simp only [] at c1 c2 c3 c4 c5 c6 c7 hB2 ⊢
 cases B1 with
 | false =>
   rw [if_pos rfl]
   clear c7 e4 e5
   clear hB2
   obtain ⟨kk,knm,kks,kbb,kkids⟩:=key
   obtain ⟨k2,nm2,s2,b2,kids2⟩:=SK
   obtain ⟨k3,nm3,s3,b3,kids3⟩:=RC
   obtain ⟨k4,nm4,s4,b4,kids4⟩:=SG
   simp only [Sv.cells,Tm.cells,List.cons_append,List.nil_append] at c1 c2 c3 c4 c5 c6 hfz ⊢
   generalize Za log=LL at c4 c5 c6 hfz ⊢
   refine Jw tOk fe13.ok rfl ?_ hfz
   repeat' first|refine Jo ?_|(apply dK;rfl;rfl;rfl)|refine Jd (c1 _) ?_|(apply dT (ty:=4);rfl;rfl;rfl;rfl)|refine Jh ?_|(apply Wp.draw tOk follows;kernel_rfl)|fail
   all_goals rfl
 | true =>
   rw [if_neg (by simp)]
   cases B2 with
   | false =>
     rw [if_pos (of_decide_eq_false hB2.symm)]
     clear c7 e4 e5
     clear hB2
     obtain ⟨kk,knm,kks,kbb,kkids⟩:=key
     obtain ⟨k2,nm2,s2,b2,kids2⟩:=SK
     obtain ⟨k3,nm3,s3,b3,kids3⟩:=RC
     obtain ⟨k4,nm4,s4,b4,kids4⟩:=SG
     simp only [Sv.cells,Tm.cells,List.cons_append,List.nil_append] at c1 c2 c3 c4 c5 c6 hfz ⊢
     generalize Za log=LL at c4 c5 c6 hfz ⊢
     refine Jw tOk fe13.ok rfl ?_ hfz
     repeat' first|refine Jo ?_|(apply dCl;rfl;rfl;rfl;rfl;rfl;first|exact c1 _|exact c2 _|exact c3 _)|(apply dT (ty:=4);rfl;rfl;rfl;rfl)|(apply dF (ty:=4);rfl;rfl;rfl;rfl)|refine Jh ?_|(apply Wp.draw tOk follows;kernel_rfl)|fail
     all_goals rfl
   | true =>
     rw [if_neg (not_not_intro (of_decide_eq_true hB2.symm))]
     by_cases hre:re=0
     · rw [decide_eq_false (not_not_intro hre)] at e4
       rw [if_neg (not_not_intro hre)]
       by_cases hse:se=0
       · rw [decide_eq_false (not_not_intro hse)] at e5
         rw [if_neg (not_not_intro hse)]
         cases KP with
         | none =>
           simp only [if_true]
           simp only [kV] at c6
           clear c7
           clear hB2
           obtain ⟨kk,knm,kks,kbb,kkids⟩:=key
           obtain ⟨k2,nm2,s2,b2,kids2⟩:=SK
           obtain ⟨k3,nm3,s3,b3,kids3⟩:=RC
           obtain ⟨k4,nm4,s4,b4,kids4⟩:=SG
           simp only [Sv.cells,Tm.cells,List.cons_append,List.nil_append] at c1 c2 c3 c4 c5 c6 hfz ⊢
           generalize Za log=LL at c4 c5 c6 hfz ⊢
           refine Jw tOk fe13.ok rfl ?_ hfz
           repeat' first|refine Jk ?_|(apply qCl;rfl;rfl;rfl;rfl;first|exact c4 _|exact c5 _|exact c6 _)|refine Ji ?_|refine Jl ?_|refine Jt ?_|refine Jo ?_|(apply dCl;rfl;rfl;rfl;rfl;rfl;first|exact c1 _|exact c2 _|exact c3 _)|(apply dF (ty:=4);rfl;rfl;rfl;rfl)|refine Jh ?_|(apply Wp.draw tOk follows;kernel_rfl)|fail
           all_goals rfl
         | some L =>
           have c7:=c7 L rfl
           simp only [kV] at c6 ⊢
           show ∀ H,CallOk E0 Tryz.prog 13 [.agg (Sv.mk name key lb log kb keys).cells] H (.int .i64 (if enB L keys=false then 1 else 0)) H
           obtain ⟨E,hE⟩:∃ E,E=enB L keys:=⟨_,rfl⟩
           rw [← hE] at c7 ⊢
           clear hE
           generalize enC L=LE at c6 c7
           simp only [Sv.cells] at hfz ⊢
           generalize enC keys=KE at c7 hfz ⊢
           cases E
           all_goals simp only [if_true,Bool.true_eq_false,if_false]
           · have c7 := c7
             clear hB2
             obtain ⟨kk,knm,kks,kbb,kkids⟩:=key
             obtain ⟨k2,nm2,s2,b2,kids2⟩:=SK
             obtain ⟨k3,nm3,s3,b3,kids3⟩:=RC
             obtain ⟨k4,nm4,s4,b4,kids4⟩:=SG
             simp only [Tm.cells,List.cons_append,List.nil_append] at c1 c2 c3 c4 c5 c6 hfz ⊢
             generalize Za log=LL at c4 c5 c6 hfz ⊢
             refine Jw tOk fe13.ok rfl ?_ hfz
             repeat' first|(apply qCl;rfl;rfl;rfl;rfl;first|exact c4 _|exact c5 _|exact c6 _|exact c7 _)|refine Ji ?_|refine Jl ?_|refine Jt ?_|refine Jo ?_|(apply dCl;rfl;rfl;rfl;rfl;rfl;first|exact c1 _|exact c2 _|exact c3 _)|(apply dF (ty:=4);rfl;rfl;rfl;rfl)|refine Jh ?_|(apply Wp.draw tOk follows;kernel_rfl)|fail
             all_goals rfl
           · have c7 := c7
             clear hB2
             obtain ⟨kk,knm,kks,kbb,kkids⟩:=key
             obtain ⟨k2,nm2,s2,b2,kids2⟩:=SK
             obtain ⟨k3,nm3,s3,b3,kids3⟩:=RC
             obtain ⟨k4,nm4,s4,b4,kids4⟩:=SG
             simp only [Tm.cells,List.cons_append,List.nil_append] at c1 c2 c3 c4 c5 c6 hfz ⊢
             generalize Za log=LL at c4 c5 c6 hfz ⊢
             refine Jw tOk fe13.ok rfl ?_ hfz
             repeat' first|(apply qCl;rfl;rfl;rfl;rfl;first|exact c4 _|exact c5 _|exact c6 _|exact c7 _)|refine Ji ?_|refine Jl ?_|refine Jt ?_|refine Jo ?_|(apply dCl;rfl;rfl;rfl;rfl;rfl;first|exact c1 _|exact c2 _|exact c3 _)|(apply dF (ty:=4);rfl;rfl;rfl;rfl)|refine Jh ?_|(apply Wp.draw tOk follows;kernel_rfl)|fail
             all_goals rfl
       · rw [decide_eq_true hse] at e5
         rw [if_pos hse]
         clear c7
         clear hB2
         obtain ⟨kk,knm,kks,kbb,kkids⟩:=key
         obtain ⟨k2,nm2,s2,b2,kids2⟩:=SK
         obtain ⟨k3,nm3,s3,b3,kids3⟩:=RC
         obtain ⟨k4,nm4,s4,b4,kids4⟩:=SG
         simp only [Sv.cells,Tm.cells,List.cons_append,List.nil_append] at c1 c2 c3 c4 c5 c6 hfz ⊢
         generalize Za log=LL at c4 c5 c6 hfz ⊢
         refine Jw tOk fe13.ok rfl ?_ hfz
         repeat' first|refine Jc (c4 _) ?_|refine Jc (c5 _) ?_|refine Ji ?_|refine Jl ?_|refine Jo ?_|(apply dCl;rfl;rfl;rfl;rfl;rfl;first|exact c1 _|exact c2 _|exact c3 _)|(apply dF (ty:=4);rfl;rfl;rfl;rfl)|refine Jh ?_|(apply Wp.draw tOk follows;kernel_rfl)|fail
         all_goals rfl
     · rw [decide_eq_true hre] at e4
       rw [if_pos hre]
       clear c7 e5
       clear hB2
       obtain ⟨kk,knm,kks,kbb,kkids⟩:=key
       obtain ⟨k2,nm2,s2,b2,kids2⟩:=SK
       obtain ⟨k3,nm3,s3,b3,kids3⟩:=RC
       obtain ⟨k4,nm4,s4,b4,kids4⟩:=SG
       simp only [Sv.cells,Tm.cells,List.cons_append,List.nil_append] at c1 c2 c3 c4 c5 c6 hfz ⊢
       generalize Za log=LL at c4 c5 c6 hfz ⊢
       refine Jw tOk fe13.ok rfl ?_ hfz
       repeat' first|refine Jc (c4 _) ?_|refine Ji ?_|refine Jo ?_|(apply dCl;rfl;rfl;rfl;rfl;rfl;first|exact c1 _|exact c2 _|exact c3 _)|(apply dF (ty:=4);rfl;rfl;rfl;rfl)|refine Jh ?_|(apply Wp.draw tOk follows;kernel_rfl)|fail
       all_goals rfl
end Go.Vm.Seat
