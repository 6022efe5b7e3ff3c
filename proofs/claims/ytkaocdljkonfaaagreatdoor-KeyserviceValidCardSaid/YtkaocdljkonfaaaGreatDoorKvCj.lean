/-
  Services that are few and small; KeyserviceValid's function. KeyserviceValid: what the row asks of a call, from what the function gives at any argumen
-/
import Derived.Test.YtkaocdljkonfaaaGreatDoorJs
import Derived.SizedLaws
import Derived.Test.YtkaocdljkonfaaaGreatDoorCards
import Derived.Test.YtkaocdljkonfaaaGreatDoorTie
import Derived.OpenShut
import Derived.Deep.DeepHandedRow
import Derived.Deep.DeepWitnessRowRef
import Derived.WideKeyArgs
import Derived.ChangeMaps5
set_option maxHeartbeats 64000000
set_option maxRecDepth 100000
namespace Go.Vm.Seat
variable {n:Nat} {s:Sv}
open Go.Proofs
theorem Zmo {L:List (List PV)} {o:PV} {lv:List Nat} {nt:Nat} (h:ApV false 4 L o lv nt):∃ tl,o= .sl tl 4 L:=by
 cases h with
 |nil _ _ h=>cases h
 |full _ _ _ _=>exact ⟨_,rfl⟩
 |tok _ k _ _ _ _ _ _=>exact ⟨_,rfl⟩
def Ui:List En→Bool
 | []=>true
 |e::r=>decide (e.name.length≤100)&&(QL [e.key] 1 60&&Ui r)
def Zhe (s:Sv):Bool:=decide (s.name.length≤40)&&(decide (s.keys.length≤40)&&(QL (s.key::s.log) 41 900&&Ui s.keys))
theorem Zi8 (a b:Nat):ZV E0 .gtr 3 (.int .i64 (a:Int)) (.int .i64 (b:Int))=some (.bool (!decide (a≤b))):=by
 show some (PV.bool (decide ((b:Int)<(a:Int))))=_
 congr 2
 rw [Bool.eq_iff_iff]
 simp
theorem Zrc (h:n*56≤140737488355328):Wf 1 n 56=true:=by
 simp only [Wf,Bool.and_eq_true,Nat.ble_eq]
 omega
theorem ZiS {i:Nat} (h:n≤maxLen) (hi:i<n):IntKind.i64.wrap ((i:Int)+1)=((i+1:Nat):Int):=Ze (n:=i+1) (by unfold maxLen at h;omega)
theorem c8 (hk:s.key.Ok) (hl:∀ t,t∈s.log→t.Ok) (hlen:s.log.length*56≤140737488355328) (he:∀ e,e∈s.keys→e.key.Ok) (hkl:s.keys.length≤maxLen):∀ H,CallOk E0 Tryz.prog 8 [.agg s.cells] H (.bool (Zhe s)) H:=by
 have hfz:=Zcl s
 have hA0:ApV false 4 (Za [s.key]) (.sl .full 4 (Za [s.key])) [] 0:= .full _ _ _ rfl (ZB _)
 obtain ⟨o1,lv1,nt1,ap,A1, -⟩:=hA0.app YH (.slV s.lb 4 (Za s.log)) (Zs _) (by simp only [Zb,List.length_cons,List.length_nil];exact Zrc hlen) (ZB _)
 rw [← Zl,List.singleton_append] at A1
 rw [ZT] at ap
 obtain ⟨tl,rfl⟩:=Zmo A1
 have cF:=c25 (l:=s.key::s.log) (fun t ht=>by
  rcases List.mem_cons.1 ht with rfl|ht
  · exact hk
  · exact hl t ht) (by unfold maxLen;simp only [List.length_cons];omega) false (n:=41) (most:=900) (by decide) (by decide)
 have cF:∀ H,CallOk E0 Tryz.prog 25 [.sl tl 4 (Za (s.key::s.log)),.int .i64 41,.int .i64 900] H (.bool (QL (s.key::s.log) 41 900)) H:=fun H=>by
  refine Z9 (cF H) ?_
  simp only [Z1]
  rfl
 have cK:=fun (e:En) (hm:e∈s.keys)=>ZsQ (he e hm) 60 (by decide) (by decide)
 have gn1:=Zi8 s.name.length 40
 have hen:=Z6 s.keys
 have gn2:=Zi8 (enC s.keys).length 40
 rw [hen] at gn2
 have gn2:ZV E0 .gtr 3 (.int .i64 ((enC s.keys).length:Int)) (.int .i64 40)=some (.bool (!decide (s.keys.length≤40))):=by rw [hen];exact gn2
 obtain ⟨V,hV⟩:∃ V,V=Zhe s:=⟨_,rfl⟩
 rw [← hV]
 unfold Zhe at hV
 clear hA0 A1 hk hl hlen he
 generalize QL (s.key::s.log) 41 900=B3 at cF hV
 generalize Za (s.key::s.log)=KL at ap cF
 generalize decide (s.name.length≤40)=B1 at gn1 hV
 generalize decide (s.keys.length≤40)=B2 at gn2 hV
 obtain ⟨name,⟨k,nm,z,b,kids⟩,lb,log,kb,keys⟩:=s
 simp only [] at hkl cK hen hV gn1 gn2
 simp only [Sv.cells,Tm.cells,List.cons_append,List.nil_append] at ap hfz ⊢
 by_cases hgo:B1=true∧B2=true∧B3=true
 · obtain ⟨rfl, rfl, rfl⟩ := hgo
   simp only [Bool.true_and,Bool.not_true] at hV gn1 gn2
   refine Jw tOk fe8.ok rfl ?_ hfz
   repeat' first|refine Jc (cF _) ?_|refine Js ?_|refine JA ?_|refine Ji ?_|refine Jl ?_|refine Jt ?_|refine Jo ?_|fail
   refine Wp.while (fun m tm H=>∃ (i:Nat) (base:TM),i+m=keys.length∧V=Ui (keys.drop i)∧tm=ovr base [(1,.ptr 0 7 0 0),(3,.int .i64 (i:Int))]∧H=⟨[.cells 7 [[.str name,.int .i64 k,.str nm,.int .i64 z,slV b 4 (Za kids),slV lb 4 (Za log),slV kb 6 (enC keys)]]],0,lv1,nt1⟩)
    (fun m tm H hI=>?_) keys.length _ _ ⟨0,_,by omega,by rw [List.drop_zero];exact hV,Zi ⟨rfl,rfl,trivial⟩,rfl⟩
   clear hV ap cF gn1 gn2
   obtain ⟨i,base,hi,hI,rfl,rfl⟩:=hI
   by_cases hlt:i<keys.length
   · have hlx : ZV E0 .lss 3 (.int .i64 (i : Int)) (.int .i64 ((enC keys).length : Int)) = some (.bool true) := We (by omega)
     obtain ⟨e,he⟩:∃ e,keys[i]? = some e:=⟨keys[i],by simp⟩
     have hc:=cK e (List.mem_of_getElem? he)
     have w1:=Zi8 e.name.length 100
     have hj:=Xv he
     have hlz:i<(enC keys).length:=by omega
     rw [ZM he] at hI
     simp only [Ui] at hI
     generalize QL [e.key] 1 60=D at hc hI
     generalize decide (e.name.length≤100)=N at w1 hI
     obtain ⟨na,⟨k5,n5,z5,t5,q5⟩,ia⟩:=e
     simp only [En.cells,Tm.cells,List.cons_append,List.nil_append] at hj hc w1
     have hO:(N=true∧D=true)∨N=false∨(N=true∧D=false):=by cases N<;>cases D<;>simp
     rcases hO with ⟨rfl,rfl⟩|rfl|⟨rfl,rfl⟩
     · simp only [Bool.true_and, Bool.not_true] at hI w1
       repeat' first|refine Jc (hc _) ?_|refine Js ?_|refine Ji ?_|refine Jl ?_|refine Jx ?_|refine Jt ?_|refine Jo ?_|fail
       exact LoopI.go (m-1) (by omega) ⟨i+1,_,by omega,hI,Zi ⟨rfl,Zh (ZiS (i:=i) hkl hlt),trivial⟩,rfl⟩
     · simp only [Bool.false_and, Bool.not_false] at hI w1
       subst hI
       repeat' first|refine Jk ?_|refine Ji ?_|refine Jl ?_|refine Jx ?_|refine Jt ?_|refine Jo ?_|fail
       all_goals rfl
     · simp only [Bool.true_and, Bool.false_and, Bool.not_true] at hI w1
       subst hI
       repeat' first|refine Jc (hc _) ?_|refine Js ?_|refine Ji ?_|refine Jl ?_|refine Jx ?_|refine Jt ?_|refine Jo ?_|fail
       all_goals rfl
   · have e : i = keys.length := by omega
     subst e
     rw [List.drop_length] at hI
     simp only [Ui] at hI
     subst hI
     have hlx:ZV E0 .lss 3 (.int .i64 (keys.length:Int)) (.int .i64 ((enC keys).length:Int))=some (.bool false):=XS (by omega)
     repeat' first|refine Ji ?_|refine Jl ?_|refine Jt ?_|refine Jo ?_|fail
     all_goals rfl
 · have hv : V = false := by
     rw [hV]
     revert hgo
     cases B1<;>cases B2<;>cases B3<;>simp
   subst hv
   have hO:B1=false∨(B1=true∧B2=false)∨(B1=true∧B2=true∧B3=false):=by
    revert hgo
    cases B1<;>cases B2<;>cases B3<;>simp
   clear hgo hV
   rcases hO with rfl|⟨rfl,rfl⟩|⟨rfl,rfl,rfl⟩
   all_goals simp only [Bool.not_true,Bool.not_false] at gn1 gn2
   all_goals
    refine Jw tOk fe8.ok rfl ?_ hfz
    repeat' first|refine Jk ?_|refine Jc (cF _) ?_|refine Js ?_|refine JA ?_|refine Ji ?_|refine Jl ?_|refine Jt ?_|refine Jo ?_|fail
   all_goals rfl
structure SvIn (s:Sv):Prop where
 k:s.key.Ok
 l:∀ t,t∈s.log→t.Ok
 ll:s.log.length*56≤140737488355328
 e:∀ e,e∈s.keys→e.key.Ok
 el:s.keys.length≤maxLen
theorem ZmE {l:List Tm} {n m:Int} (h:QL l n m=true):(l.length:Int)≤n∧∀ t,t∈l→(t.size:Int)≤m:=by
 unfold QL at h
 split at h
 · cases h
 · exact ⟨by omega,VR l m h⟩
theorem ZbM:∀ {L:List En},Ui L=true→∀ e,e∈L→e.name.length≤100∧e.key.size≤60
 | [],_,e,h=>by simp at h
 | a :: r, h, e, he => by
   simp only [Ui,Bool.and_eq_true,decide_eq_true_eq] at h
   rcases List.mem_cons.1 he with rfl|he
   · have := ZcW h.2.1
     exact ⟨h.1,by omega⟩
   · exact ZbM h.2.2 e he
theorem ZnC (h:SvIn s) (hf:Zhe s=true):SvOk s∧s.name.length≤40:=by
 simp only [Zhe,Bool.and_eq_true,decide_eq_true_eq] at hf
 obtain ⟨f1,f2,f3,f4⟩:=hf
 obtain ⟨a,b⟩:=ZmE f3
 have ks:=ZbM f4
 simp only [List.length_cons] at a
 exact ⟨⟨by omega,h.k,by have:=b s.key (by simp);omega,h.l,fun t ht=>by have:=b t (by simp [ht]);omega,by omega,fun e he=>⟨⟨h.e e he,by have:=(ks e he).2;omega⟩,by have:=(ks e he).1;omega⟩,by omega⟩,f1⟩
theorem Zo4 (s:Sv):ZdZ (ZiF s).1 (Zkg s).1=true∧(ZiF s).2=(Zkg s).2:=by
 have lz:ZeI [Tm.zero,Tm.zero,Tm.zero] [Tm.zero,Tm.zero,Tm.zero]=true:=Zsz rfl rfl rfl
 unfold ZiF Zkg
 rw [XV]
 by_cases hv:svV s=0
 · rw [if_neg (not_not_intro hv), if_neg (not_not_intro hv)]
   refine ⟨?_,rfl⟩
   have e:(pkT s.key.cl).cl=(pkT s.key).cl:=by simp only [pkT,Tm.cl,clL,Zbh]
   simp only [ZdZ,decide_true,Bool.true_and]
   exact Zsz e rfl rfl
 · rw [if_pos hv, if_pos hv]
   refine ⟨?_,rfl⟩
   simp only [ZdZ,decide_true,Bool.true_and]
   exact lz
theorem Zou (h:SvOk s):Zhd 1000000 (ZiF s).1∧Zhd 1000000 (Zkg s).1:=by
 have hz:=(Zcg (S:=1000000) (by omega)).1
 have hz2:=(Zcg (S:=1000000) (by omega)).2
 have key:∀ k:Tm,k.Ok→k.size≤900→Zhd 1000000 ⟨pkT k,0,.zero,.zero⟩:=fun k h1 h2=>by
  have e:(pkT k).size=k.size+1:=QU
  exact ⟨⟨ok1 (by decide) h1,by show (pkT k).size≤_;omega⟩,hz2,hz2⟩
 unfold ZiF Zkg
 constructor
 · split
   · exact hz
   · exact key _ (Vi h.k) (by rw [YK];exact h.ks)
 · split
   · exact hz
   · exact key _ h.k h.ks
theorem c3 {s:Sv} (h:SvIn s):∀ H,CallOk E0 Tryz.prog 3 [.agg s.cells] H (.bool true) H:=by
 have haw:=ZaD
 have cF:=c8 h.k h.l h.ll h.e h.el
 have hfz:=Zcl s
 cases hF:Zhe s with
 | false =>
   rw [hF] at cF
   clear hF h
   obtain ⟨name,⟨k,nm,z,b,kids⟩,lb,log,kb,keys⟩:=s
   simp only [Sv.cells,Tm.cells,List.cons_append,List.nil_append] at cF hfz ⊢
   refine Jw tOk fe3.ok rfl ?_ hfz
   repeat' first|refine Jc (haw _) ?_|refine Jc (cF _) ?_|refine Jt ?_|refine Jo ?_|fail
   all_goals rfl
 | true =>
   rw [hF] at cF
   obtain ⟨ho,hn⟩:=ZnC h hF
   have c1:=c9 ho
   have c2:=c10 ho
   have c3:=c11 s.name (by omega)
   have c4:=c12 s.name (by omega)
   have c5:=c13 ho
   rw [XV] at c5
   have c6:=c14 ho
   obtain ⟨q1,q2⟩:=Zo4 s
   obtain ⟨o1,o2⟩:=Zou ho
   have c7:=c15 o1 o2
   rw [q1] at c7
   have hN:SvOk (if Y6 s.name=true then X3 s.name else svZero):=by
    split
    · have hs := Ua (name := s.name) (by omega)
      exact ⟨by show s.name.length≤1000;omega,hs.1,by show (skT s.name).size≤900;have:=hs.2;omega,by simp [X3],by simp [X3],by simp [X3],by simp [X3,Wz],by simp [X3]⟩
    · exact Y9
   have c8:=c16 (.rfl' _) hN hN
   have e1:=Zjc (rfl:svV s=svV s)
   have e2:=Zjc q2
   generalize (if Y6 s.name=true then X3 s.name else svZero)=N at c3 c4 c8
   generalize (if Y6 s.name=true then (0:Int) else 2)=ne at c3 c4
   have e3:=Zjc (rfl:ne=ne)
   clear hF h ho hn o1 o2 q1 q2 hN
   generalize svV s=V at c5 c6 e1
   generalize ZiF s=A at c1 c7 e2
   generalize Zkg s=B at c2 c7 e2
   obtain ⟨⟨⟨k7,nm7,s7,b7,kids7⟩,n1,⟨k8,nm8,s8,b8,kids8⟩,k9,nm9,s9,b9,kids9⟩,f1⟩:=A
   obtain ⟨⟨⟨kb,nmb,sb,bb,kidsb⟩,n2,⟨kc,nmc,sc,bc,kidsc⟩,kd,nmd,sd,bd,kidsd⟩,f2⟩:=B
   obtain ⟨nn,⟨nk,nnm,nz,nb,nkids⟩,nlb,nlog,nkb,nkeys⟩:=N
   obtain ⟨name,⟨k,nm,z,b,kids⟩,lb,log,kb',keys⟩:=s
   simp only [Sv.cells,Rd.cells,Tm.cells,List.cons_append,List.nil_append] at cF c1 c2 c3 c4 c5 c6 c7 c8 e1 e2 e3 hfz ⊢
   refine Jw tOk fe3.ok rfl ?_ hfz
   repeat' first|(apply qCl;rfl;rfl;rfl;rfl;first|exact haw _|exact cF _|exact c1 _|exact c2 _|exact c3 _|exact c4 _)|refine Jt ?_|refine Jo ?_|(apply dCl;rfl;rfl;rfl;rfl;rfl;first|exact c5 _|exact c6 _|exact c7 _|exact c8 _)|refine JD ?_|(apply dT (ty:=4);rfl;rfl;rfl;rfl)|refine Jh ?_|(apply Wp.draw tOk follows;kernel_rfl)|fail
   all_goals rfl
end Go.Vm.Seat
namespace Go.Proofs.YtkaocdljkonfaaaGreatDoor.keyserviceValid
open Go.ChangeMaps Go.ChangeShapes Go.WideShapes Go.ChangeAt Go.RowKit Go.Vm Go.Vm.Seat
variable {H α:Type} {cs:List PV} {b:Bool}
theorem own:ownKnob Tryz.prog.godebug=none:=by kernel_rfl
def cl:List TypeId:=[3,9,24,22,60,25,27]
theorem Zmd:∀ t,t∈cl→Zlw E0.T cl t=true:=by
 intro t ht
 have h:cl.all (fun t=>Zlw E0.T cl t)=true:=by kernel_rfl
 exact List.all_eq_true.1 h t ht
theorem e3:E0.T 3=some ⟨.int .i64,1,8,.int .i64 0⟩:=by kernel_rfl
theorem e9:E0.T 9=some ⟨.string,1,16,.str []⟩:=by kernel_rfl
theorem eT:E0.T 24=some ⟨.struct [(0,3),(1,9),(2,3),(3,22)],4,56,.agg [.int .i64 0,.str [],.int .i64 0,.nils]⟩:=by kernel_rfl
theorem eTs:E0.T 22=some ⟨.slice 24,1,24,.nils⟩:=by kernel_rfl
theorem eE:E0.T 60=some ⟨.struct [(0,9),(1,24),(5,3)],6,80,.agg [.str [],.int .i64 0,.str [],.int .i64 0,.nils,.int .i64 0]⟩:=by kernel_rfl
theorem eEs:E0.T 25=some ⟨.slice 60,1,24,.nils⟩:=by kernel_rfl
theorem eS:E0.T 27=some ⟨.struct [(0,9),(1,24),(5,22),(6,25)],7,120,.agg [.str [],.int .i64 0,.str [],.int .i64 0,.nils,.nils,.nils]⟩:=by kernel_rfl
theorem Zr2 {l:List α} (h:l.length=6):∃ a b c d e f,l= [a,b,c,d,e,f]:=by
 match l,h with
 | [a,b,c,d,e,f],_=>exact ⟨a,b,c,d,e,f,rfl⟩
theorem Zub {l:List α} (h:l.length=7):∃ a b c d e f g,l= [a,b,c,d,e,f,g]:=by
 match l,h with
 | [a,b,c,d,e,f,g],_=>exact ⟨a,b,c,d,e,f,g,rfl⟩
theorem Zrw (h:Sh E0.T 60 cs):∃ e:En,cs=e.cells∧e.key.Ok:=by
 cases h with
 |bool h' hk'=>rw [eE] at h';cases h';cases hk'
 |int h' hk'=>rw [eE] at h';cases h';cases hk'
 |str h' hk'=>rw [eE] at h';cases h';cases hk'
 |nils h' hk'=>rw [eE] at h';cases h';cases hk'
 |sl h' hk'=>rw [eE] at h';cases h';cases hk'
 | struct h' hk' hlen hf =>
   rw [eE] at h';cases h';cases hk'
   obtain ⟨a,b,c,d,e,f,rfl⟩:=Zr2 hlen
   have q0:=hf 0 9 _ (by simp) e9
   have q1:=hf 1 24 _ (by simp) eT
   have q2:=hf 5 3 _ (by simp) e3
   simp only [List.drop_zero,List.drop_succ_cons,List.take_succ_cons,List.take_zero] at q0 q1 q2
   obtain ⟨s0,z0, -⟩:=ZfA q0 e9 rfl
   obtain ⟨t1,z1,k1⟩:=(Zch e3 rfl rfl e9 rfl rfl eTs rfl rfl eT rfl rfl q1).1 rfl
   obtain ⟨n2,z2, -⟩:=Vp q2 e3 rfl
   simp only [List.cons.injEq,and_true] at z0 z2
   subst z0 z2
   exact ⟨⟨s0,t1,n2⟩,by simp only [En.cells, ← z1,List.cons_append,List.nil_append],k1⟩
theorem Zlv:∀ (el:List (List PV)),(∀ c,c∈el→∃ e:En,c=e.cells∧e.key.Ok)→∃ l:List En,el=enC l∧∀ e,e∈l→e.key.Ok
 | [],_=>⟨[],rfl,fun _ h=>absurd h (by simp)⟩
 | c :: r, h => by
   obtain ⟨x,hx,ho⟩:=h c List.mem_cons_self
   obtain ⟨l,hl,hlo⟩:=Zlv r fun c hc=>h c (List.mem_cons_of_mem _ hc)
   refine ⟨x::l,by simp only [enC,List.map_cons] at hl ⊢;rw [hx,hl],fun u hu=>?_⟩
   rcases List.mem_cons.1 hu with rfl|hu
   · exact ho
   · exact hlo u hu
theorem Zop (h:Sh E0.T 25 cs):∃ b,∃ l:List En,cs= [slV b 6 (enC l)]∧(∀ e,e∈l→e.key.Ok)∧l.length≤maxLen:=by
 cases h with
 |bool h' hk'=>rw [eEs] at h';cases h';cases hk'
 |int h' hk'=>rw [eEs] at h';cases h';cases hk'
 |str h' hk'=>rw [eEs] at h';cases h';cases hk'
 |nils h' hk'=>exact ⟨true,[],by rw [show enC []= [] from rfl,Zq],fun _ h=>absurd h (by simp),Nat.zero_le _⟩
 | sl h' hk' he hl hel =>
   rw [eEs] at h';cases h';cases hk'
   rw [eE] at he;cases he
   obtain ⟨l,rfl,ho⟩:=Zlv _ fun c hc=>Zrw (hel c hc)
   exact ⟨false,l,by rw [Z1],ho,by rwa [Z6] at hl⟩
 |struct h' hk'=>rw [eEs] at h';cases h';cases hk'
theorem ZpN (h:Sh E0.T 27 cs):∃ s:Sv,cs=s.cells∧s.key.Ok∧(∀ t,t∈s.log→t.Ok)∧(∀ e,e∈s.keys→e.key.Ok)∧s.keys.length≤maxLen:=by
 cases h with
 |bool h' hk'=>rw [eS] at h';cases h';cases hk'
 |int h' hk'=>rw [eS] at h';cases h';cases hk'
 |str h' hk'=>rw [eS] at h';cases h';cases hk'
 |nils h' hk'=>rw [eS] at h';cases h';cases hk'
 |sl h' hk'=>rw [eS] at h';cases h';cases hk'
 | struct h' hk' hlen hf =>
   rw [eS] at h';cases h';cases hk'
   obtain ⟨a,b,c,d,e,f,g,rfl⟩:=Zub hlen
   have q0:=hf 0 9 _ (by simp) e9
   have q1:=hf 1 24 _ (by simp) eT
   have q2:=hf 5 22 _ (by simp) eTs
   have q3:=hf 6 25 _ (by simp) eEs
   simp only [List.drop_zero,List.drop_succ_cons,List.take_succ_cons,List.take_zero] at q0 q1 q2 q3
   obtain ⟨s0,z0, -⟩:=ZfA q0 e9 rfl
   obtain ⟨t1,z1,k1⟩:=(Zch e3 rfl rfl e9 rfl rfl eTs rfl rfl eT rfl rfl q1).1 rfl
   obtain ⟨b2,l2,z2,k2, -⟩:=(Zch e3 rfl rfl e9 rfl rfl eTs rfl rfl eT rfl rfl q2).2 rfl
   obtain ⟨b3,l3,z3,k3,y3⟩:=Zop q3
   simp only [List.cons.injEq,and_true] at z0 z2 z3
   subst z0 z2 z3
   exact ⟨⟨s0,t1,b2,l2,b3,l3⟩,by simp only [Sv.cells, ← z1,List.cons_append,List.nil_append],k1,k2,k3,y3⟩
theorem Zjy {S:Vx} {es:Nat} {el:List (List PV)} {a:Option Addr} {len cap:Nat} (h:V0 S (slV b es el) (.slice a len cap)):el.length=len:=by
 cases el with
 | nil =>
   cases b
   · rw [Z8] at h;cases h;rfl
   · rw [Zq] at h;cases h;rfl
 |cons c r=>rw [Zw] at h;cases h;rfl
theorem bT:Tryz.prog.bytesOf 24=56:=by kernel_rfl
theorem cTs:Tryz.prog.cellsOf 22=1:=by kernel_rfl
theorem Zju {enc : TypeId × Value → H} {w : World} {base fuel : Nat} {spare : Nat → Bool} {held : Bool} {cs : List Value} {x : DataW H × List MemPlace} {s : Sv}
  (h:DataW.trod enc Tryz.prog w base spare held fuel 27 cs=some x) (hc:W5 (wS w) s.cells cs)
  (hs:∀ n∈x.1.weights Tryz.prog 27,n≤reachBytes):s.log.length*56≤140737488355328:=by
 obtain ⟨xs,m, -,rfl,hlen,hxl,hf⟩:=DataW.trod_struct Tryz.underlying27 h
 have h2:DataW.trod enc Tryz.prog w base spare held m 22 ((cs.drop 5).take (Tryz.prog.cellsOf 22))=xs[2]? :=hf 2 _ rfl
 rw [cTs] at h2
 obtain ⟨y,hy⟩:∃ y,xs[2]? = some y:=⟨xs[2]'(by rw [hxl];decide),List.getElem?_eq_getElem _⟩
 rw [hy] at h2
 obtain ⟨name,⟨k,nm,z,b,kids⟩,lb,log,kb,keys⟩:=s
 simp only [Sv.cells,Tm.cells,List.cons_append,List.nil_append] at hc ⊢
 have hj:5<cs.length:=by rw [hc.1];simp
 have hc5:V0 (wS w) (slV lb 4 (Za log)) cs[5]:=hc.2 5 (by simp) hj
 have e5:∀ v,(cs.drop 5).take 1= [v]→cs[5]=v:=fun v hv=>by
  have:=congrArg (fun l=>l[0]?) hv
  simp only [List.getElem?_take,List.getElem?_drop,Nat.add_zero,Nat.zero_lt_one,if_true,List.getElem?_cons_zero,List.getElem?_eq_getElem hj] at this
  exact Option.some.inj this
 simp only [DataW.weights,Tryz.underlying27] at hs
 rcases DataW.trod_slice Tryz.underlying22 h2 with ⟨hcs, -⟩|⟨a,len,cap,elems,rest,n, -,hcs,hy', -, -, -,hel, -⟩
 · rw [e5 _ hcs] at hc5
   have hl:=Zjy hc5
   rw [Zb] at hl
   omega
 · rw [e5 _ hcs] at hc5
   have hl:=Zjy hc5
   rw [Zb] at hl
   have hb:=hs _ (DataW.weights_mem_each (j:=2) (t:=22) (d:=y.1) rfl (by simp [hy]) _ (by rw [hy'];simp only [DataW.weights,Tryz.underlying22];exact List.mem_cons_self))
   rw [bT,List.length_map,List.length_map] at hb
   unfold reachBytes at hb
   omega
theorem Vr:laidOutB Tryz.prog=true:=by kernel_rfl
theorem contract (H : Type) (enc : TypeId × Value → H) (W : World) (base : Nat) (args : Array Value) (ds gs : List (DataW H)) (before : List MemPlace)
  (hval:∀ (j:Nat) t v,Tryz.f3.params[j]? = some t→args[j]? = some v→Value.okWide Tryz.prog W .any base t v)
  (hW:DataW.Whole enc Tryz.prog Tryz.f3.params.toList Rows.keyserviceValidSpec.vars false W args.toList ds gs before) (hL:laidMetH Tryz.prog Rows.keyserviceValidRow.laid W) {tv:List TypeId} (hsz:(DataW.weightsEach Tryz.prog (Tryz.f3.params.toList++tv) (ds++gs)).all (· ≤reachBytes)=true) :
  Calls Tryz.prog 3 args W fun e W'=>∃ v,e= .returned v∧Rows.keyserviceValidSpec.post enc Tryz.prog Tryz.f3 false true false false W args v W':=by
 have hG:=ZrH hL
 have hW':=hW
 obtain ⟨p,q,hA0,hV,rfl,hfz,hnd⟩:=hW
 have hA:DataW.TrodAll enc Tryz.prog W 0 (fun _=>true) true Tryz.f3.params.toList args.toList ds p:=hA0
 rw [Tryz.params3] at hA hval hsz
 obtain ⟨v0,vs0,d0,ds0,p0,q0,hargs,rfl,rfl,h0,r0⟩:=trodAll_cons hA
 obtain ⟨rfl,rfl,rfl⟩:=trodAll_nil r0
 obtain rfl:args= #[v0]:=by cases args;simp_all
 obtain ⟨rfl,rfl⟩:=trodVars_none hV
 have h0k:=h0
 obtain ⟨cs0,rfl, -⟩:=okWide_struct Tryz.underlying27 (hval 0 27 v0 rfl rfl)
 obtain ⟨fuel0,hf0⟩:=h0
 obtain ⟨pcs0,hsh0,hcells0⟩:=Uj tOk Zmd fuel0 27 _ _ (by simp [cl]) hf0
 obtain ⟨s,rfl,k1,k2,k3,k4⟩:=ZpN hsh0
 have hlog:=Zju hf0 hcells0 fun n hn=>by
  have:=List.all_eq_true.1 hsz n (DataW.weights_mem_each (j:=0) (t:=27) (d:=d0) rfl rfl n hn)
  simpa using this
 clear hA0 hsz
 simp only [List.append_nil] at hW'
 have hlt0:∀ x∈p0,x.block<W.heap.size:=fun x hx=>by simpa using hW'.lt x (by simp [hx])
 have call:=Zau fe3.ok hG (c3 ⟨k1,k2,hlog,k3,k4⟩ hNil) (w:=W) (vals:= #[.agg cs0]) ⟨rfl,fun i hi hj=>by
  match i,hi with
  | 0,_=>exact Ziv hcells0⟩
 refine Calls.mono call fun e W' ⟨v,he,⟨g',hv⟩,hg,hsame⟩=>?_
 obtain rfl:=hv.bool_inv
 subst he
 refine ⟨_,rfl,Za4 (pa:=p0) (pv:=[]) hW' (fun _ _ _=>trodAll_cons_mk (shut_bool Tryz.underlying4 _) trodAll_mk0) (fun sp hsp=>?_) (fun _ _=>rfl) (by simp)
  (hg.frame _) hg.fz (ok_one (by kernel_rfl) rfl (okWide_bool_mk Tryz.underlying4 _))⟩
 have t0:=WideElems.Trod_stays (sp':=sp) (W':=W') Vr (by kernel_rfl) (of_decide_eq_true (by kernel_rfl)) h0k (fun x hx=>ZaE hsame (hlt0 x hx)) (fun x hx=>hsp x (by simp [hx]))
 exact trodAll_mk1 t0
open Go.ChangeShapes Go.WideShapes Go.ChangeAt Go.RowKit Go.Vm Go.Vm.Seat
noncomputable def lay (c:Array Value):Obj→Obj
 | .cells _ t frozen=> .cells c t frozen
 |o=>o
noncomputable def YY (os:Os):World:=
 { World.holding Tryz.prog os ⟨#[], #[], []⟩ with
   heap:=((((((((((World.holding Tryz.prog os ⟨#[], #[],[]⟩).heap.modify 4 (lay #[.int .u8 0,.int .u8 1,.int .u8 28,.int .u8 2,.int .u8 29,.int .u8 14,.int .u8 24,.int .u8 3,.int .u8 30,.int .u8 22,.int .u8 20,.int .u8 15,.int .u8 25,.int .u8 17,.int .u8 4,.int .u8 8,.int .u8 31,.int .u8 27,.int .u8 13,.int .u8 23,.int .u8 21,.int .u8 19,.int .u8 16,.int .u8 7,.int .u8 26,.int .u8 12,.int .u8 18,.int .u8 6,.int .u8 11,.int .u8 5,.int .u8 10,.int .u8 9])).modify 5 (lay #[.int .u8 0,.int .u8 1,.int .u8 56,.int .u8 2,.int .u8 57,.int .u8 49,.int .u8 28,.int .u8 3,.int .u8 61,.int .u8 58,.int .u8 42,.int .u8 50,.int .u8 38,.int .u8 29,.int .u8 17,.int .u8 4,.int .u8 62,.int .u8 47,.int .u8 59,.int .u8 36,.int .u8 45,.int .u8 43,.int .u8 51,.int .u8 22,.int .u8 53,.int .u8 39,.int .u8 33,.int .u8 30,.int .u8 24,.int .u8 18,.int .u8 12,.int .u8 5,.int .u8 63,.int .u8 55,.int .u8 48,.int .u8 27,.int .u8 60,.int .u8 41,.int .u8 37,.int .u8 16,.int .u8 46,.int .u8 35,.int .u8 44,.int .u8 21,.int .u8 52,.int .u8 32,.int .u8 23,.int .u8 11,.int .u8 54,.int .u8 26,.int .u8 40,.int .u8 15,.int .u8 34,.int .u8 20,.int .u8 31,.int .u8 10,.int .u8 25,.int .u8 14,.int .u8 19,.int .u8 9,.int .u8 13,.int .u8 8,.int .u8 7,.int .u8 6])).modify 1 (lay #[.int .u64 1,.int .u64 10,.int .u64 100,.int .u64 1000,.int .u64 10000,.int .u64 100000,.int .u64 1000000,.int .u64 10000000,.int .u64 100000000,.int .u64 1000000000,.int .u64 10000000000,.int .u64 100000000000,.int .u64 1000000000000,.int .u64 10000000000000,.int .u64 100000000000000,.int .u64 1000000000000000,.int .u64 10000000000000000,.int .u64 100000000000000000,.int .u64 1000000000000000000,.int .u64 10000000000000000000])).modify 7 (lay #[.int .u8 128,.int .u8 191,.int .u8 160,.int .u8 191,.int .u8 128,.int .u8 159,.int .u8 144,.int .u8 191,.int .u8 128,.int .u8 143,.int .u8 0,.int .u8 0,.int .u8 0,.int .u8 0,.int .u8 0,.int .u8 0,.int .u8 0,.int .u8 0,.int .u8 0,.int .u8 0,.int .u8 0,.int .u8 0,.int .u8 0,.int .u8 0,.int .u8 0,.int .u8 0,.int .u8 0,.int .u8 0,.int .u8 0,.int .u8 0,.int .u8 0,.int .u8 0])).modify 3 (lay #[.iface 247 (.pointer (some ⟨(World.holding Tryz.prog os ⟨#[], #[],[]⟩).heap.size+0,0,none⟩))])).modify 2 (lay #[.iface 247 (.pointer (some ⟨(World.holding Tryz.prog os ⟨#[], #[],[]⟩).heap.size+1,0,none⟩))])).modify 6 (lay ((Pinned.utf8FirstZ.map fun n=>Value.int .u8 (Int.ofNat n)).toArray))).push (.cells #[.string ⟨#[118,97,108,117,101,32,111,117,116,32,111,102,32,114,97,110,103,101]⟩] 249 (0,0))).push (.cells #[.string ⟨#[105,110,118,97,108,105,100,32,115,121,110,116,97,120]⟩] 249 (0,0)))}
def wit:Array Value:= #[.agg #[.string ⟨#[]⟩,.int .i64 0,.string ⟨#[]⟩,.int .i64 0,.slice none 0 0,.slice none 0 0,.slice none 0 0]]
theorem UJ (os:Os):laidMet Tryz.prog Rows.keyserviceValidRow.laid ((YY os).forCall (fun _ _=>0) ⟨#[],wit,[]⟩).memory:=
 laidMet_of_run' 8 (by kernel_rfl) (by kernel_rfl)
theorem Zi7 (os:Os) (enc:TypeId×Value→H):∃ places,DataW.whole enc Tryz.prog ((YY os).forCall (fun _ _=>0) ⟨#[],wit,[]⟩).memory Tryz.f3.params.toList Rows.keyserviceValidSpec.vars false wit.toList 8=some ([.agg [.lit (.string []),.agg [.lit (.int .i64 0),.lit (.string []),.lit (.int .i64 0),.nil],.nil,.nil]],[],places):=
 ⟨[],by kernel_rfl⟩
theorem lifted (os : Os) (started : os.Started) (H : Type) (enc : TypeId × Value → H) (F : Stop.Interp) :
  ReturnsInHanded {} Tryz.checked os 3 .any ((OpenSpec.ofChange Rows.keyserviceValidSpec).preRow enc Tryz.prog Tryz.f3 Rows.keyserviceValidRow.domain false Rows.keyserviceValidRow.laid) (((OpenSpec.ofChange Rows.keyserviceValidSpec).at F).post enc Tryz.prog Tryz.f3 false true false false):=by
 obtain ⟨places,hx⟩:=Zi7 os enc
 refine returnsInHanded_of_row (C:=Tryz.checked) (s:=OpenSpec.ofChange Rows.keyserviceValidSpec) own started (by kernel_rfl) Tryz.func3
  (witness_row_atRef (enc := enc) (C := Tryz.checked) false (YY os) wit rfl (by kernel_rfl) (by kernel_rfl) (by kernel_rfl)
    (OpenSpec.preRow_of_cond 8 hx (by kernel_rfl) (fun k hk=>by cases hk) (by kernel_rfl) (UJ os))) ?_
 intro W base args ds gs before hval hW x1 x2 x3 x4 x5 x6
 exact contract H enc W base args ds gs before hval hW (by first|exact x1|exact x2|exact x3|exact x4|exact x5|exact x6) (by first|exact x1|exact x2|exact x3|exact x4|exact x5|exact x6)
open Go.ChangeShapes Go.WideShapes Go.ChangeAt Go.RowKit Go.Vm Go.Vm.Seat
theorem ZoF {a:Bool} (h1:a=true) (h2:b=true):(a&&b)=true:=by rw [h1,h2];rfl
theorem closed:joinedFacts Tryz.pinned.checked.prog 3 Tryz.f3 (OpenSpec.ofChange Rows.keyserviceValidSpec).bare Rows.keyserviceValidRow=true:=by
 unfold joinedFacts
 repeat' (with_reducible apply ZoF)
 all_goals decide +kernel
end Go.Proofs.YtkaocdljkonfaaaGreatDoor.keyserviceValid
