/-
  What the environment knows at first: the program's text (public keys, the set).
-/
import Derived.Test.YtcopccjkfbmpcaaGreatDoorQk
set_option maxHeartbeats 0
set_option maxRecDepth 100000
namespace Go.Vm
variable {ag some:List Bs} {a b:Bs}
def inG (some:List Bs) (a b:Bs):List Tm:=if (!(decide (a=b))&&(Xt a some||Xt b some))=true then [shT a b] else []
def inL (some:List Bs) (a:Bs) (l:List Bs):List Tm:=l.flatMap (inG some a)
def prL (some:List Bs) (a:Bs):List Tm:=if Xt a some=true then [prT a] else []
def blG (some ag:List Bs) (a:Bs):List Tm:=prL some a++inL some a ag
def blT (some ag:List Bs) (n:Nat):List Tm:=(ag.take n).flatMap (blG some ag)
theorem Zcp {l:List Bs} {k:Nat} (h:l[k]? = Option.some b):inL some a (l.take (k+1))=inL some a (l.take k)++inG some a b:=by
 rw [inL,List.take_add_one,h,List.flatMap_append];simp [inL]
theorem Zcj {n:Nat} (h:ag[n]? = Option.some a):blT some ag (n+1)=blT some ag n++(prL some a++inL some a ag):=by
 rw [blT,List.take_add_one,h,List.flatMap_append];simp [blT,blG]
theorem Zck (some:List Bs) (a:Bs):∀ l:List Bs,(inL some a l).length≤l.length
 | []=>Nat.le_refl _
 | b :: r => by
   have:=Zck some a r
   simp only [inL,List.flatMap_cons,List.length_append,List.length_cons] at this ⊢
   have:(inG some a b).length≤1:=by unfold inG;split<;>simp
   omega
theorem Zcf (some:List Bs) (a:Bs):(prL some a).length≤1:=by unfold prL;split<;>simp
theorem ZbJ (some:List Bs) {ag:List Bs} (h:ag.length≤6):∀ n,n≤6→(blT some ag n).length≤n*7
 |0,_=>by simp [blT]
 | n + 1, hn => by
   have ih:=ZbJ some h n (by omega)
   cases ha:ag[n]? with
   | none =>
     have e:blT some ag (n+1)=blT some ag n:=by rw [blT,List.take_add_one,ha];simp [blT]
     rw [e];omega
   | some a =>
     rw [Zcj ha]
     have h1:=Zcf some a
     have h2:=Zck some a ag
     simp only [List.length_append]
     omega
theorem ZiU (h:a.length≤1000):(agT a).Ok∧(agT a).size≤1:=⟨.mk (by decide) (by decide) (by unfold maxLen;omega) (by decide) fun t ht=>by simp at ht,by simp [agT,Tm.size,Zl]⟩
theorem ZkL (h:a.length≤1000):(prT a).Ok∧(prT a).size≤2:=by
 have:=ZiU h
 exact ⟨.mk (by decide) (by decide) (by decide) (by simp only [List.length_cons,List.length_nil];unfold maxLen;omega) fun t ht=>by rw [List.mem_singleton.1 ht];exact this.1,by have:=this.2;simp only [prT,Tm.size,Zl];omega⟩
theorem Zfh (h:a.length≤1000):(puT a).Ok∧(puT a).size≤3:=by
 have:=ZkL h
 exact ⟨.mk (by decide) (by decide) (by decide) (by simp only [List.length_cons,List.length_nil];unfold maxLen;omega) fun t ht=>by rw [List.mem_singleton.1 ht];exact this.1,by have:=this.2;simp only [puT,Tm.size,Zl];omega⟩
theorem Zng (h:a.length≤1000) (h2:b.length≤1000):(shT a b).Ok∧(shT a b).size≤3:=by
 have e1:=ZiU h
 have e2:=ZiU h2
 refine ⟨.mk (by decide) (by decide) (by decide) (by simp only [List.length_cons,List.length_nil];unfold maxLen;omega) fun t ht=>?_,by have:=e1.2;have:=e2.2;simp only [shT,Tm.size,Zl];omega⟩
 rcases List.mem_cons.1 ht with rfl|ht
 · exact e1.1
 · rw [List.mem_singleton.1 ht];exact e2.1
theorem ZeX (hn:∀ s,s∈ag→s.length≤1000) (n:Nat):∀ t,t∈blT some ag n→t.Ok∧t.size≤3:=fun t ht=>by
 obtain ⟨a,ha,ht⟩:=List.mem_flatMap.1 ht
 have ha:=hn a (List.mem_of_mem_take ha)
 rcases List.mem_append.1 ht with h|h
 · unfold prL at h
   split at h
   · rw [List.mem_singleton.1 h];have:=ZkL ha;exact ⟨this.1,by have:=this.2;omega⟩
   · cases h
 · obtain ⟨b, hb, h⟩ := List.mem_flatMap.1 h
   unfold inG at h
   split at h
   · rw [List.mem_singleton.1 h];exact Zng ha (hn b hb)
   · cases h
def Qf (c:Ca):List Tm:=blT c.bad c.ag c.ag.length++c.ag.map puT
end Go.Vm
namespace Go.Vm.Seat
variable {bx:List Box} {v:PV} {L M:List Tm} {H:Heap} {c:Ca}
open Go.Proofs
theorem ZkP (a b:Bs):X7 E0 .neq 9 (.str a) (.str b)=some (.bool (!decide (a=b))):=by
 show some (PV.bool (!(a==b)))=_
 by_cases h:a=b<;>simp [h]
theorem QS {el:List (List PV)} (h:Mut 4 bx v el) (he:el=Za L):(v= .nils∧L= [])∨∃ k,v= .own k 4 0 L.length∧bx[k]? = some (.cells 4 (Za L)):=by
 cases h with
 | nil =>
   left
   have:=congrArg List.length he
   rw [Zb] at this
   exact ⟨rfl,List.length_eq_zero_iff.1 this.symm⟩
 | own k _ hk =>
   right
   subst he
   exact ⟨k,by rw [Zb],hk⟩
theorem Zfd {id:Nat} (h:nth H.bx id=some (.cells 4 (Za M))):YH H (.own id 4 0 M.length)=some (Za M):=by
 simp only [YH,h]
 rw [if_pos ⟨trivial,by rw [Zb];omega⟩,List.drop_zero, ← Zb M,List.take_length]
 exact Vb _
theorem apM (y : Tm) (hv : Mut 4 bx v (Za L)) (hl : L.length ≤ 100000) : ∃ bx', ZG E0 29 29 v (.sl .full 4 [y.cells]) ⟨bx, 0, [], 0⟩ = some (.own bx.length 4 0 (L.length + 1), ⟨bx', 0, [], 0⟩) ∧ Mut 4 bx' (.own bx.length 4 0 (L.length + 1)) (Za (L ++ [y])) ∧ bx'.length = bx.length + 1 ∧
  ∀ (j:Nat) (B:Box),bx[j]? = some B→(∀ el,B≠Box.cells 4 el)→bx'[j]? = some B:=by
 have hok:(Za [y]).all (fun c=>c.all ZX)=true:=Zn _
 have hone:Za [y]= [y.cells]:=ZaO y
 rcases QS hv rfl with ⟨rfl,rfl⟩|⟨k,rfl,hk⟩
 · have he := ZZ (s := .nils) Yd (ElV.sl .full 4 (Za [y])) hok rfl rfl ⟨bx, 0, [], 0⟩
   refine ⟨bx++ [.cells 4 (Za [y])],?_,?_,by simp,fun j B hj _=>by rw [List.getElem?_append_left (Zv hj)];exact hj⟩
   · rw [hone] at he
     simp only [ZG,he,Yz]
     rw [if_pos (ZJ (by simp) (by decide)),hone]
     rfl
   · have := Mut.own (es := 4) (bx := bx ++ [.cells 4 (Za [y])]) bx.length (Za [y]) (by simp)
     rwa [Zb] at this
 · have hnth : nth bx k = some (.cells 4 (Za L)) := (Zs _ _).trans hk
   have hs:=Zfd (H:=⟨bx,0,[],0⟩) (id:=k) (M:=L) hnth
   have he:=ZZ (s:= .own k 4 0 L.length) Yd (ElV.sl .full 4 (Za [y])) hok rfl rfl ⟨bx,0,[],0⟩
   rw [hone] at he
   refine ⟨bx.set k .dead++ [.cells 4 (Za (L++ [y]))],?_,?_,by simp,fun j B hj hB=>?_⟩
   · simp only [ZG, he, Yz, XY, hs]
     rw [if_pos ⟨trivial,Nat.zero_le _,Zb L,ZJ (by rw [Zb];simp;omega) (by decide)⟩,Zt,hone,Zb]
     rfl
   · have := Mut.own (es := 4) (bx := bx.set k .dead ++ [.cells 4 (Za (L ++ [y]))]) bx.length (Za (L ++ [y])) (by rw [List.getElem?_append_right (by simp)]; simp)
     rwa [Zb,List.length_append] at this
   · have hne : k ≠ j := fun e => by
       subst e
       rw [hk] at hj
       exact hB _ (Option.some.inj hj).symm
     rw [List.getElem?_append_left (by rw [List.length_set];exact Zv hj),List.getElem?_set_ne hne]
     exact hj
theorem apC {C:Box} (hC:∀ el,C≠ .cells 4 el) (y:Tm) (hv:Mut 4 (C::bx) v (Za L)) (hl:L.length≤100000):∃ bx',ZG E0 29 29 v (.sl .full 4 [y.cells]) ⟨C::bx,0,[],0⟩=some (.own (bx.length+1) 4 0 (L.length+1),⟨C::bx',0,[],0⟩)∧Mut 4 (C::bx') (.own (bx.length+1) 4 0 (L.length+1)) (Za (L++ [y])):=by
 obtain ⟨bx',h1,h2,h3,h4⟩:=apM y hv hl
 have h5:=h4 0 C rfl hC
 cases bx' with
 |nil=>cases h5
 | cons D r =>
   simp only [List.getElem?_cons_zero,Option.some.injEq] at h5
   subst h5
   exact ⟨r,h1,h2⟩
theorem ZrZ (hc:c.Sm) (h6:c.ag.length≤6) {sm:List Bs} (hs:sm.length≤1000) (b:Bool):∃ v bx,CallOk E0 Tryz.prog 53 [.agg c.cells,slV b 1 (Zp sm)] hNil v ⟨bx,0,[],0⟩∧Mut 4 bx v (Za (blT sm c.ag c.ag.length)):=by
 have key:∃ r H1,CallOk E0 Tryz.prog 53 [.agg c.cells,slV b 1 (Zp sm)] hNil r H1∧∃ bx,H1=⟨bx,0,[],0⟩∧Mut 4 bx r (Za (blT sm c.ag c.ag.length)):=by
  obtain ⟨la,lb,na,nb⟩:=hc
  have hbl:=fun n=>ZbJ sm h6 n
  obtain ⟨an,ag,bn,bad⟩:=c
  simp only [Ca.cells] at la lb na nb h6 hbl ⊢
  have hsl:=Zw ag
  have hCn:∀ el,Box.cells 2 [[slV an 1 (Zp ag),slV bn 1 (Zp bad)]]≠ .cells 4 el:=fun el h=>by cases h
  refine ZP (own:=fun d=>Nat.beq d 24||Nat.beq d 50) tOk fe53.ok ?_
  refine Wp.seq ?_
  repeat' first|refine Jl ?_|refine Jo ?_|fail
  refine Wp.while (fun m tm H => ∃ (i : Nat) (base : TM) (v : PV) (bx : List Box), i + m = ag.length ∧ Mut 4 (.cells 2 [[slV an 1 (Zp ag), slV bn 1 (Zp bad)]] :: bx) v (Za (blT sm ag i)) ∧
    tm=ovr base [(1,slV b 1 (Zp sm)),(2,.ptr 0 2 0 0),(5,v),(11,slV an 1 (Zp ag)),(12,.int .i64 (ag.length:Int)),(13,.int .i64 (i:Int))]∧H=⟨.cells 2 [[slV an 1 (Zp ag),slV bn 1 (Zp bad)]]::bx,0,[],0⟩)
   (fun m tm H hI=>?_) ag.length _ _ ⟨0,_,_,_,by omega,.nil,Zf ⟨rfl,rfl,rfl,rfl,Ze (by rw [hsl]),rfl,trivial⟩,rfl⟩
  obtain ⟨i,base,v,bx,hi,hM,rfl,rfl⟩:=hI
  by_cases hlt:i<ag.length
  · obtain ⟨a, ha⟩ : ∃ a, ag[i]? = some a := ⟨ag[i], by simp⟩
    have hj:=ZW ha
    have hlx:=Zr (i:Int) (ag.length:Int)
    rw [decide_eq_true (by omega)] at hlx
    have k1:=c49 hs a b
    have k2:=c80 a
    obtain ⟨bx2,hap,hM2⟩:=apC hCn (prT a) hM (by have:=hbl i (by omega);omega)
    have hbi:=hbl i (by omega)
    have hsn:=Zcj (some:=sm) ha
    have hP:∃ P,P=prL sm a:=⟨_,rfl⟩
    obtain ⟨P,hP⟩:=hP
    have hP1:=Zcf sm a
    rw [← hP] at hsn hP1
    unfold prL at hP
    have hstep:∃ (v':PV) (bx':List Box),Mut 4 (.cells 2 [[slV an 1 (Zp ag),slV bn 1 (Zp bad)]]::bx') v' (Za (blT sm ag i++P))∧(v',bx')=(if Xt a sm=true then (.own (bx.length+1) 4 0 ((blT sm ag i).length+1),bx2) else (v,bx)):=by
     by_cases hm:Xt a sm=true
     · rw [if_pos hm] at hP ⊢
       exact ⟨_,_,by rw [hP];exact hM2,rfl⟩
     · rw [if_neg hm] at hP ⊢
       exact ⟨_,_,by rw [hP,List.append_nil];exact hM,rfl⟩
    obtain ⟨v',bx',hM',hvb⟩:=hstep
    generalize hm1:Xt a sm=M1 at k1 hvb
    generalize prT a=T at k2 hap
    obtain ⟨k',nm',s',b',kz'⟩:=T
    simp only [Tm.cells] at k2 hap
    clear hM hM2 hP
    cases M1
    · rw [if_neg (by simp)] at hvb
      cases hvb
      repeat' first|refine Jc (k1 _) ?_|refine Ji ?_|refine Jl ?_|refine Jx ?_|refine Jo ?_|fail
      clear hap
      refine Wp.while (fun m2 tm H => ∃ (k : Nat) (base : TM) (w : PV) (bw : List Box), k + m2 = ag.length ∧ Mut 4 (.cells 2 [[slV an 1 (Zp ag), slV bn 1 (Zp bad)]] :: bw) w (Za (blT sm ag i ++ P ++ inL sm a (ag.take k))) ∧
        tm=ovr base [(1,slV b 1 (Zp sm)),(2,.ptr 0 2 0 0),(5,w),(7,.str a),(11,slV an 1 (Zp ag)),(12,.int .i64 (ag.length:Int)),(13,.int .i64 (i:Int)),(26,slV an 1 (Zp ag)),(27,.int .i64 (ag.length:Int)),(28,.int .i64 (k:Int))]∧H=⟨.cells 2 [[slV an 1 (Zp ag),slV bn 1 (Zp bad)]]::bw,0,[],0⟩)
       (fun m2 tm H hI=>?_) ag.length _ _ ⟨0,_,_,_,by omega,by rw [List.take_zero,show inL sm a []= [] from rfl,List.append_nil];exact hM',Zf ⟨rfl,rfl,rfl,rfl,rfl,rfl,rfl,rfl,Ze (by rw [hsl]),rfl,trivial⟩,rfl⟩
      obtain ⟨k,base,w,bw,hk2,hW,rfl,rfl⟩:=hI
      by_cases hlk:k<ag.length
      · obtain ⟨d, hd⟩ : ∃ d, ag[k]? = some d := ⟨ag[k], by simp⟩
        have hjd:=ZW hd
        have hly:=Zr (k:Int) (ag.length:Int)
        rw [decide_eq_true (by omega)] at hly
        have k3:=c49 hs d b
        have k4:=c81 a d
        have hne:=ZkP a d
        have hin:=Zck sm a (ag.take k)
        rw [List.length_take] at hin
        have hlw:(blT sm ag i++P++inL sm a (ag.take k)).length≤1000:=by simp only [List.length_append];omega
        obtain ⟨bw2,hap,hW2⟩:=apC hCn (shT a d) hW (by omega)
        have hsi:=Zcp (some:=sm) (a:=a) hd
        unfold inG at hsi
        rw [hm1] at hsi
        generalize Xt d sm=M2 at k3 hsi
        generalize decide (a=d)=N at hne hsi
        generalize hT:shT a d=T at k4 hap hsi hW2
        obtain ⟨k',nm',s',b',kz'⟩:=T
        simp only [Tm.cells] at k4 hap
        cases N
        · cases M2
          · skip
            rw [if_neg (by simp),List.append_nil] at hsi
            repeat' first|refine Jc (k1 _) ?_|refine Jc (k3 _) ?_|refine Ji ?_|refine Jx ?_|refine Jt ?_|refine Jo ?_|fail
            exact LoopI.go (m2-1) (by omega) ⟨k+1,_,w,bw,by omega,by rw [hsi];exact hW,Zf ⟨rfl,rfl,rfl,rfl,rfl,rfl,rfl,rfl,rfl,Ze (Zd (n:=k+1) (by omega)),trivial⟩,rfl⟩
          · skip
            rw [if_pos (by simp)] at hsi
            repeat' first|(apply qCl;rfl;rfl;rfl;rfl;first|exact k1 _|exact k3 _|exact k4 _)|refine Js ?_|refine Ji ?_|refine Jx ?_|refine Jt ?_|refine Jo ?_|fail
            refine ZkA rfl rfl rfl rfl rfl hap ?_
            repeat' first|refine Jo ?_|fail
            exact LoopI.go (m2-1) (by omega) ⟨k+1,_,_,bw2,by omega,by rw [hsi, ← List.append_assoc];exact hW2,Zf ⟨rfl,rfl,rfl,rfl,rfl,rfl,rfl,rfl,rfl,Ze (Zd (n:=k+1) (by omega)),trivial⟩,rfl⟩
        · rw [if_neg (by simp), List.append_nil] at hsi
          repeat' first|refine Jk ?_|refine Ji ?_|refine Jx ?_|refine Jt ?_|refine Jo ?_|fail
          exact LoopI.go (m2-1) (by omega) ⟨k+1,_,w,bw,by omega,by rw [hsi];exact hW,Zf ⟨rfl,rfl,rfl,rfl,rfl,rfl,rfl,rfl,rfl,Ze (Zd (n:=k+1) (by omega)),trivial⟩,rfl⟩
      · have e : k = ag.length := by omega
        subst e
        have hly:=Zr (ag.length:Int) (ag.length:Int)
        rw [decide_eq_false (by omega)] at hly
        repeat' first|refine Ji ?_|refine Jo ?_|fail
        rw [List.take_length,List.append_assoc, ← hsn] at hW
        exact LoopI.go (m-1) (by omega) ⟨i+1,_,w,bw,by omega,hW,Zf ⟨rfl,rfl,rfl,rfl,rfl,Ze (Zd (n:=i+1) (by omega)),trivial⟩,rfl⟩
    · rw [if_pos rfl] at hvb
      cases hvb
      repeat' first|refine Jc (k1 _) ?_|refine Jc (k2 _) ?_|refine Js ?_|refine Ji ?_|refine Jx ?_|refine Jo ?_|fail
      refine ZkA rfl rfl rfl rfl rfl hap ?_
      repeat' first|refine Jl ?_|refine Jo ?_|fail
      clear hap
      refine Wp.while (fun m2 tm H => ∃ (k : Nat) (base : TM) (w : PV) (bw : List Box), k + m2 = ag.length ∧ Mut 4 (.cells 2 [[slV an 1 (Zp ag), slV bn 1 (Zp bad)]] :: bw) w (Za (blT sm ag i ++ P ++ inL sm a (ag.take k))) ∧
        tm=ovr base [(1,slV b 1 (Zp sm)),(2,.ptr 0 2 0 0),(5,w),(7,.str a),(11,slV an 1 (Zp ag)),(12,.int .i64 (ag.length:Int)),(13,.int .i64 (i:Int)),(26,slV an 1 (Zp ag)),(27,.int .i64 (ag.length:Int)),(28,.int .i64 (k:Int))]∧H=⟨.cells 2 [[slV an 1 (Zp ag),slV bn 1 (Zp bad)]]::bw,0,[],0⟩)
       (fun m2 tm H hI=>?_) ag.length _ _ ⟨0,_,_,_,by omega,by rw [List.take_zero,show inL sm a []= [] from rfl,List.append_nil];exact hM',Zf ⟨rfl,rfl,rfl,rfl,rfl,rfl,rfl,rfl,Ze (by rw [hsl]),rfl,trivial⟩,rfl⟩
      obtain ⟨k,base,w,bw,hk2,hW,rfl,rfl⟩:=hI
      by_cases hlk:k<ag.length
      · obtain ⟨d, hd⟩ : ∃ d, ag[k]? = some d := ⟨ag[k], by simp⟩
        have hjd:=ZW hd
        have hly:=Zr (k:Int) (ag.length:Int)
        rw [decide_eq_true (by omega)] at hly
        have k3:=c49 hs d b
        have k4:=c81 a d
        have hne:=ZkP a d
        have hin:=Zck sm a (ag.take k)
        rw [List.length_take] at hin
        have hlw:(blT sm ag i++P++inL sm a (ag.take k)).length≤1000:=by simp only [List.length_append];omega
        obtain ⟨bw2,hap,hW2⟩:=apC hCn (shT a d) hW (by omega)
        have hsi:=Zcp (some:=sm) (a:=a) hd
        unfold inG at hsi
        rw [hm1] at hsi
        generalize Xt d sm=M2 at k3 hsi
        generalize decide (a=d)=N at hne hsi
        generalize hT:shT a d=T at k4 hap hsi hW2
        obtain ⟨k',nm',s',b',kz'⟩:=T
        simp only [Tm.cells] at k4 hap
        cases N
        · cases M2
          · skip
            rw [if_pos (by simp)] at hsi
            repeat' first|refine Jk ?_|refine Jc (k1 _) ?_|refine Jc (k4 _) ?_|refine Js ?_|refine Ji ?_|refine Jx ?_|refine Jt ?_|refine Jo ?_|fail
            refine ZkA rfl rfl rfl rfl rfl hap ?_
            repeat' first|refine Jo ?_|fail
            exact LoopI.go (m2-1) (by omega) ⟨k+1,_,_,bw2,by omega,by rw [hsi, ← List.append_assoc];exact hW2,Zf ⟨rfl,rfl,rfl,rfl,rfl,rfl,rfl,rfl,rfl,Ze (Zd (n:=k+1) (by omega)),trivial⟩,rfl⟩
          · skip
            rw [if_pos (by simp)] at hsi
            repeat' first|refine Jk ?_|refine Jc (k1 _) ?_|refine Jc (k4 _) ?_|refine Js ?_|refine Ji ?_|refine Jx ?_|refine Jt ?_|refine Jo ?_|fail
            refine ZkA rfl rfl rfl rfl rfl hap ?_
            repeat' first|refine Jo ?_|fail
            exact LoopI.go (m2-1) (by omega) ⟨k+1,_,_,bw2,by omega,by rw [hsi, ← List.append_assoc];exact hW2,Zf ⟨rfl,rfl,rfl,rfl,rfl,rfl,rfl,rfl,rfl,Ze (Zd (n:=k+1) (by omega)),trivial⟩,rfl⟩
        · rw [if_neg (by simp), List.append_nil] at hsi
          repeat' first|refine Jk ?_|refine Ji ?_|refine Jx ?_|refine Jt ?_|refine Jo ?_|fail
          exact LoopI.go (m2-1) (by omega) ⟨k+1,_,w,bw,by omega,by rw [hsi];exact hW,Zf ⟨rfl,rfl,rfl,rfl,rfl,rfl,rfl,rfl,rfl,Ze (Zd (n:=k+1) (by omega)),trivial⟩,rfl⟩
      · have e : k = ag.length := by omega
        subst e
        have hly:=Zr (ag.length:Int) (ag.length:Int)
        rw [decide_eq_false (by omega)] at hly
        repeat' first|refine Ji ?_|refine Jo ?_|fail
        rw [List.take_length,List.append_assoc, ← hsn] at hW
        exact LoopI.go (m-1) (by omega) ⟨i+1,_,w,bw,by omega,hW,Zf ⟨rfl,rfl,rfl,rfl,rfl,Ze (Zd (n:=i+1) (by omega)),trivial⟩,rfl⟩
  · have e : i = ag.length := by omega
    subst e
    have hlx:=Zr (ag.length:Int) (ag.length:Int)
    rw [decide_eq_false (by omega)] at hlx
    repeat' first|refine Ji ?_|refine Jo ?_|fail
    exact RetR.ret rfl ⟨_,rfl,hM⟩
 obtain ⟨r,H1,h1,bx,rfl,h2⟩:=key
 exact ⟨r,bx,h1,h2⟩
theorem Zp5 {f : FuncId} {args : List PV} (ha : Zz args = some args) (h : ∃ v bx, CallOk E0 Tryz.prog f args hNil v ⟨bx, 0, [], 0⟩ ∧ Mut 4 bx v (Za L)) (H : Heap) :
  ∃ v' B,CallOk E0 Tryz.prog f args H v' {H with bx:=H.bx++ [B]}∧Mut 4 (H.bx++ [B]) v' (Za L):=by
 obtain ⟨v,bx,hc,hM⟩:=h
 rcases QS hM rfl with ⟨rfl,rfl⟩|⟨k,rfl,hk⟩
 · exact ⟨.nils,.dead,hc.slot (L:=[]) (k:=0) (B:= .dead) (j:=0) (.inl rfl) (fun g g0 l hS _ x=>Zbi hS ha x) (.inl rfl) (fun g1 g2 v hS _ x=>Ws hS rfl x),.nil⟩
 · refine ⟨.own H.bx.length 4 0 L.length, .cells 4 (Za L), hc.slot (L := []) (k := 0) (B := .cells 4 (Za L)) (j := k) (.inl rfl) (fun g g0 l hS _ x => Zbi hS ha x) (.inr ⟨4, Za L, [], rfl, by simpa using hk, Wa L⟩) (fun g1 g2 v hS hs x => Uv hs.1 hs.2 x), ?_⟩
   have:=Mut.own (es:=4) (bx:=H.bx++ [.cells 4 (Za L)]) H.bx.length (Za L) (by simp)
   rwa [Zb] at this
theorem Zpf (hc : c.Sm) (h6 : c.ag.length ≤ 6) (hne : c.ag ≠ []) {A B : Box} (hv : Mut 4 [A, B] v (Za L)) (hL : ∀ t, t ∈ L → t.Ok ∧ t.size ≤ 3) (hll : L.length ≤ 100) :
  ∃ id D H1,CallOk E0 Tryz.prog 52 [.agg c.cells,v] ⟨[A,B],0,[],0⟩ (.own id 4 0 (WN (L++c.ag.map puT)).length) H1∧nth H1.bx id=some (.cells 4 (Za (WN (L++c.ag.map puT))++D))∧2≤H1.bx.length:=by
 have key:∃ r H1,CallOk E0 Tryz.prog 52 [.agg c.cells,v] ⟨[A,B],0,[],0⟩ r H1∧∃ id D,r= .own id 4 0 (WN (L++c.ag.map puT)).length∧nth H1.bx id=some (.cells 4 (Za (WN (L++c.ag.map puT))++D))∧2≤H1.bx.length:=by
  obtain ⟨la,lb,na,nb⟩:=hc
  obtain ⟨an,ag,bn,bad⟩:=c
  simp only [Ca.cells] at la lb na nb h6 hne ⊢
  have hsl:=Zw ag
  refine ZP (own:=fun d=>Nat.beq d 18) tOk fe52.ok ?_
  refine Wp.seq ?_
  repeat' first|refine Jl ?_|refine Jo ?_|fail
  refine Wp.while (fun m tm H => ∃ (i : Nat) (base : TM) (w : PV) (bx : List Box), i + m = ag.length ∧ Mut 4 bx w (Za (L ++ (ag.take i).map puT)) ∧ 2 ≤ bx.length ∧
    tm=ovr base [(1,w),(8,slV an 1 (Zp ag)),(9,.int .i64 (ag.length:Int)),(10,.int .i64 (i:Int))]∧H=⟨bx,0,[],0⟩)
   (fun m tm H hI=>?_) ag.length _ _ ⟨0,_,_,_,by omega,by rw [List.take_zero,List.map_nil,List.append_nil];exact Qw (ext:=[.cells 2 [[slV an 1 (Zp ag),slV bn 1 (Zp bad)]]]) hv,by simp,Zf ⟨rfl,rfl,Ze (by rw [hsl]),rfl,trivial⟩,rfl⟩
  obtain ⟨i,base,w,bx,hi,hM,hbl,rfl,rfl⟩:=hI
  by_cases hlt:i<ag.length
  · obtain ⟨a, ha⟩ : ∃ a, ag[i]? = some a := ⟨ag[i], by simp⟩
    have hj:=ZW ha
    have hlx:=Zr (i:Int) (ag.length:Int)
    rw [decide_eq_true (by omega)] at hlx
    have k2:=c78 a
    obtain ⟨bx2,hap,hM2,hb2, -⟩:=apM (puT a) hM (by simp only [List.length_append,List.length_map,List.length_take];omega)
    have hsn:L++(ag.take (i+1)).map puT=L++(ag.take i).map puT++ [puT a]:=by rw [Uf ha,List.map_append,List.append_assoc];rfl
    rw [← hsn] at hM2
    generalize puT a=T at k2 hap
    obtain ⟨k',nm',s',b',kz'⟩:=T
    simp only [Tm.cells] at k2 hap
    repeat' first|refine Jc (k2 _) ?_|refine Js ?_|refine Ji ?_|refine Jx ?_|refine Jo ?_|fail
    refine ZkA rfl rfl rfl rfl rfl hap ?_
    repeat' first|refine Jo ?_|fail
    exact LoopI.go (m-1) (by omega) ⟨i+1,_,_,bx2,by omega,hM2,by omega,Zf ⟨rfl,rfl,rfl,Ze (Zd (n:=i+1) (by omega)),trivial⟩,rfl⟩
  · have e : i = ag.length := by omega
    subst e
    rw [List.take_length] at hM
    have hlx:=Zr (ag.length:Int) (ag.length:Int)
    rw [decide_eq_false (by omega)] at hlx
    have hX:L++ag.map puT≠ []:=fun h=>hne (by simpa using (List.append_eq_nil_iff.1 h).2)
    have hok:∀ t,t∈L++ag.map puT→t.Ok∧t.size≤100000:=fun t ht=>by
     rcases List.mem_append.1 ht with h|h
     · have:=hL t h;exact ⟨this.1,by have:=this.2;omega⟩
     · obtain ⟨a, ha, rfl⟩ := List.mem_map.1 h
       have:=Zfh (na a ha);exact ⟨this.1,by have:=this.2;omega⟩
    have hlen:(L++ag.map puT).length≤100000:=by simp only [List.length_append,List.length_map];omega
    rcases QS hM rfl with ⟨rfl,h⟩|⟨k,rfl,hk⟩
    · exact absurd h hX
    obtain ⟨D,k3⟩:=c79 hk hX hok hlen
    have hlt2:=Zv hk
    generalize L++ag.map puT=X at k3 ⊢
    repeat' first|refine Jc k3 ?_|refine Ji ?_|refine Jo ?_|fail
    exact RetR.ret rfl ⟨k,D,rfl,by rw [Zs];simp [hlt2],by simp [hbl]⟩
 obtain ⟨r,H1,h1,id,D,rfl,h2⟩:=key
 exact ⟨id,D,H1,h1,h2⟩
theorem ZeT {id:Nat} {D:List (List PV)} (hM:M≠ []) (hH:nth H.bx id=some (.cells 4 (Za M++D))) (e:Int):frz3 0 H (.tup [.own id 4 0 M.length,.int .i64 e])=some (.tup [slV true 4 (Za M),.int .i64 e]):=by
 have h:frzC 0 H (.own id 4 0 M.length)=some (slV true 4 (Za M)):=Zle hM hH
 show (match WB 0 _ [.own id 4 0 M.length,.int .i64 e] with|some vs'=>some (PV.tup vs')|none=>none)=_
 simp only [WB,frz2,h]
 rfl
theorem UN (m:Nat) (H:Heap) (M:List Tm) (e:Int):frz3 m H (.tup [slV true 4 (Za M),.int .i64 e])=some (.tup [slV true 4 (Za M),.int .i64 e]):=by
 rcases W9 true (Za M) with h|⟨el,h⟩<;>rw [h]<;>rfl
theorem WT (h:c.ag≠ []):Qf c≠ []:=fun e=>h (by simpa using (List.append_eq_nil_iff.1 e).2)
theorem X4 (hc:c.Sm):∀ t,t∈Qf c→t.Ok∧t.size≤3:=fun t ht=>by
 rcases List.mem_append.1 ht with h|h
 · exact ZeX hc.na _ t h
 · obtain ⟨a, ha, rfl⟩ := List.mem_map.1 h
   exact Zfh (hc.na a ha)
theorem ZeC (h6:c.ag.length≤6):(Qf c).length≤48:=by
 have:=ZbJ c.bad h6 c.ag.length h6
 simp only [Qf,List.length_append,List.length_map];omega
theorem QN {l:List Tm} (h:l≠ []) {N:Nat} (hs:∀ t,t∈l→t.size≤N):WN l≠ []:=by
 have hp:=Vo h hs
 exact Zkx (fun e=>h (List.length_eq_zero_iff.1 (by rw [← hp.length_eq,e];rfl))) _ (List.length_pos_iff.2 h)
theorem err_len (h:c.err=0):c.ag≠ []∧c.ag.length≤6∧agE [] c.ag=0:=by
 unfold Ca.err at h
 split at h
 · cases h
 rename_i h1
 split at h
 · cases h
 rename_i h2
 split at h
 · rename_i h3;exact absurd h h3
 rename_i h3
 exact ⟨fun e=>h1 (by rw [e];rfl),by omega,Classical.not_not.1 h3⟩
def Zbr (c:Ca):List Tm×Int:=if c.err≠0 then ([],c.err) else (WN (Qf c),0)
theorem c24 (hc:c.Sm):∀ H,CallOk E0 Tryz.prog 24 [.agg c.cells] H (.tup [slV true 4 (Za (Zbr c).1),.int .i64 (Zbr c).2]) H:=by
 have k1:=c22 hc
 unfold Zbr
 by_cases he:c.err=0
 · rw [if_neg (by omega)]
   rw [he] at k1
   obtain ⟨h1,h2, -⟩:=err_len he
   obtain ⟨v,B,k2,hM⟩:=Zp5 (by obtain ⟨an,ag,bn,bad⟩:=c;simp only [Ca.cells,Zz,Yk];simp only [frzG,XS,ZC]) (ZrZ hc h2 (sm:=c.bad) (by have:=hc.lb;omega) c.bn) ⟨[.cells 2 [c.cells]],1,[],0⟩
   obtain ⟨id,D,H1,k3,hH1,hl1⟩:=Zpf hc h2 h1 hM (ZeX hc.na _) (by have:=ZbJ c.bad h2 c.ag.length h2;omega)
   have hX:blT c.bad c.ag c.ag.length++c.ag.map puT=Qf c:=rfl
   rw [hX] at k3 hH1
   have hne:=QN (WT h1) (N:=3) fun t ht=>(X4 hc t ht).2
   have hfin:=ZeT hne hH1 0
   have hfr:=UN 0 hNil (WN (Qf c)) 0
   generalize WN (Qf c)=M at k3 hfin hfr ⊢
   clear hM hH1 hX he hc h1 h2
   obtain ⟨an,ag,bn,bad⟩:=c
   simp only [Ca.cells] at k1 k2 k3 ⊢
   refine ZU (own:=(fun d=>[5014].any (Nat.beq d))) tOk fe24.ok (by simp only [Zz,frzG,XS,ZC]) hfr ?_
   refine Wp.seq ?_
   repeat' first|refine Jc (k1 _) ?_|refine Jt ?_|refine Jo ?_|refine Jh ?_|(apply Wp.draw tOk follows;kernel_rfl)|fail
   refine dCu (ext:=[B]) rfl rfl rfl rfl rfl k2 ?_
   refine dCe rfl rfl rfl rfl rfl k3 hl1 ?_
   repeat' first|refine Jh ?_|refine Jo ?_|fail
   all_goals exact hfin
 · rw [if_pos he]
   have n1:=X8 c.err 0
   rw [decide_eq_false he] at n1
   generalize c.err=e at k1 n1 ⊢
   obtain ⟨an,ag,bn,bad⟩:=c
   simp only [Ca.cells,Za,Zh] at k1 ⊢
   refine ZU (own:=(fun d=>[5014].any (Nat.beq d))) tOk fe24.ok (by simp only [Zz,frzG,XS,ZC]) rfl ?_
   refine Wp.seq ?_
   repeat' first|refine Jc (k1 _) ?_|refine Ji ?_|refine Jo ?_|fail
   all_goals rfl
