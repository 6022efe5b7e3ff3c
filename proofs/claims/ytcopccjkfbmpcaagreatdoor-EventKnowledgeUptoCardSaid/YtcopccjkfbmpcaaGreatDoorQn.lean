/-
  What the environment knows at first: the second text.
-/
import Derived.Test.YtcopccjkfbmpcaaGreatDoorQm
set_option maxHeartbeats 0
set_option maxRecDepth 100000
namespace Go.Vm
variable {ag some:List Bs} {a:Bs} {i:Nat}
def kyG (some:List Bs) (a:Bs) (i k:Nat) (b:Bs):List Tm:=if (!(decide ((i:Int)=(k:Int)))&&(Xt a some||Xt b some))=true then [shT a b] else []
def kyI (some ag:List Bs) (a:Bs) (i:Nat):Nat→List Tm
 |0=>[]
 |k+1=>kyI some ag a i k++(match ag[k]? with|Option.some b=>kyG some a i k b|none=>[])
def kyN (some ag:List Bs):Nat→List Tm
 |0=>[]
 |i+1=>kyN some ag i++(match ag[i]? with|Option.some a=>prL some a++kyI some ag a i ag.length|none=>[])
theorem Zb5 {b:Bs} {k:Nat} (h:ag[k]? = Option.some b):kyI some ag a i (k+1)=kyI some ag a i k++kyG some a i k b:=by rw [kyI,h]
theorem ZbE (h:ag[i]? = Option.some a):kyN some ag (i+1)=kyN some ag i++(prL some a++kyI some ag a i ag.length):=by rw [kyN,h]
theorem Zcs (some ag:List Bs) (a:Bs) (i:Nat):∀ k,(kyI some ag a i k).length≤k
 |0=>Nat.le_refl _
 | k + 1 => by
   have:=Zcs some ag a i k
   rw [kyI,List.length_append]
   have h2:(match ag[k]? with|Option.some b=>kyG some a i k b|none=>[]).length≤1:=by
    split
    · unfold kyG;split<;>simp
    · simp
   omega
theorem Zcl (some:List Bs) {ag:List Bs} (h:ag.length≤6):∀ n,n≤6→(kyN some ag n).length≤n*7
 |0,_=>by simp [kyN]
 | n + 1, hn => by
   have ih:=Zcl some h n (by omega)
   cases ha:ag[n]? with
   | none=>rw [kyN,ha,List.append_nil];omega
   | some a =>
     rw [ZbE ha]
     have h1:=Zcf some a
     have h2:=Zcs some ag a n ag.length
     simp only [List.length_append]
     omega
theorem Vc:∀ (l p:List Bs),agE p l=0→l.Nodup∧∀ a,a∈l→a∉p
 | [],p,_=>⟨List.nodup_nil,fun a h=>by cases h⟩
 | a :: r, p, h => by
   simp only [agE] at h
   split at h
   · cases h
   split at h
   · cases h
   rename_i h2
   obtain ⟨i1,i2⟩:=Vc r (p++ [a]) h
   refine ⟨List.nodup_cons.2 ⟨fun hm=>i2 a hm (by simp),i1⟩,fun b hb=>?_⟩
   rcases List.mem_cons.1 hb with rfl|hb
   · exact fun hm=>h2 (Zj1.2 hm)
   · exact fun hm=>i2 b hb (List.mem_append_left _ hm)
theorem Zay {some ag:List Bs} (hn:ag.Nodup):∀ n,kyN some ag n=blT some ag n
 |0=>by simp [kyN,blT]
 | n + 1 => by
   cases ha:ag[n]? with
   | none =>
     rw [kyN,ha,Zay hn n,List.append_nil]
     rw [blT,blT,List.take_add_one,ha];simp
   | some a =>
     rw [ZbE ha,Zcj ha,Zay hn n]
     congr 2
     have key:∀ k,kyI some ag a n k=inL some a (ag.take k):=fun k=>by
      induction k with
      | zero=>rfl
      | succ k ih =>
        cases hb:ag[k]? with
        | none =>
          rw [kyI,hb,ih,List.append_nil]
          rw [List.take_add_one,hb];simp
        | some b =>
          rw [Zb5 hb,Zcp hb,ih]
          congr 1
          unfold kyG inG
          have e:decide ((n:Int)=(k:Int))=decide (a=b):=by
           by_cases h:n=k
           · subst h
             rw [ha] at hb
             rw [decide_eq_true rfl,decide_eq_true (Option.some.inj hb)]
           · have h2 : ¬ a = b := fun e => by
               subst e
               have l1:=Zv ha
               have l2:=Zv hb
               have:=(List.getElem?_inj l1 hn (j:=k)).1 (by rw [ha,hb])
               exact h this
             rw [decide_eq_false (by omega),decide_eq_false h2]
          rw [e]
     have:=key ag.length
     rwa [List.take_length] at this
def Zc6 (c:Ca):List Tm:=c.ag.map puT++kyN c.bad c.ag c.ag.length
end Go.Vm
namespace Go.Vm.Seat
variable {c:Ca}
open Go.Proofs
theorem c64 (hc:c.Sm) (lv:List Nat) (nt:Nat):∃ out H',CallOk E0 Tryz.prog 64 [.agg c.cells] ⟨[],0,lv,nt⟩ out H'∧∃ bx' lv' nt',H'=⟨bx',0,lv',nt'⟩∧ApV true 4 (Za (c.ag.map puT)) out lv' nt':=by
 obtain ⟨la,lb,na,nb⟩:=hc
 obtain ⟨an,ag,bn,bad⟩:=c
 simp only [Ca.cells] at la lb na nb ⊢
 have hsl:=Zw ag
 refine ZP (own:=fun _=>false) tOk fe64.ok ?_
 refine Wp.seq ?_
 repeat' first|refine Jo ?_|fail
 refine Wp.while (fun m tm H => ∃ (i : Nat) (base : TM) (out : PV) (lv : List Nat) (nt : Nat), i + m = ag.length ∧ ApV true 4 (Za ((ag.take i).map puT)) out lv nt ∧
   tm=ovr base [(1,.ptr 0 2 0 0),(3,out),(4,.int .i64 (i:Int))]∧H=⟨[.cells 2 [[slV an 1 (Zp ag),slV bn 1 (Zp bad)]]],0,lv,nt⟩)
  (fun m tm H hI=>?_) ag.length _ _ ⟨0,_,_,_,_,by omega,.nil _ _ rfl,Zf ⟨rfl,rfl,rfl,trivial⟩,rfl⟩
 obtain ⟨i,base,out,lv,nt,hi,hA,rfl,rfl⟩:=hI
 by_cases hlt:i<ag.length
 · obtain ⟨a, ha⟩ : ∃ a, ag[i]? = some a := ⟨ag[i], by simp⟩
   have hj:=ZW ha
   have hlx:=Zr (i:Int) ((Zp ag).length:Int)
   rw [decide_eq_true (by omega)] at hlx
   have k2:=c97 a
   obtain ⟨out',lv',nt',hap,hA'⟩:=Zah hA (puT a) (by simp only [List.length_map,List.length_take];omega)
   have hsn:(ag.take (i+1)).map puT=(ag.take i).map puT++ [puT a]:=by rw [Uf ha,List.map_append];rfl
   rw [← hsn] at hA'
   generalize puT a=T at k2 hap
   obtain ⟨k',nm',s',b',kz'⟩:=T
   simp only [Tm.cells] at k2 hap
   repeat' first|refine Jc (k2 _) ?_|refine Js ?_|refine JA ?_|refine Ji ?_|refine Jl ?_|refine Jx ?_|refine Jo ?_|fail
   exact LoopI.go (m-1) (by omega) ⟨i+1,_,out',lv',nt',by omega,hA',Zf ⟨rfl,rfl,Ze (Zd (n:=i+1) (by omega)),trivial⟩,rfl⟩
 · have e : i = ag.length := by omega
   subst e
   rw [List.take_length] at hA
   have hlx:=Zr (ag.length:Int) ((Zp ag).length:Int)
   rw [decide_eq_false (by omega)] at hlx
   repeat' first|refine Ji ?_|refine Jl ?_|refine Jo ?_|fail
   exact RetR.ret rfl ⟨_,_,_,rfl,hA⟩
theorem ZlF {b:Bool} {es:Nat} {L:List (List PV)} {out:PV} {lv:List Nat} {nt n:Nat} (h:ApV b es L out lv nt):under n out=true:=by cases h<;>rfl
theorem c65 (hc:c.Sm) (h6:c.ag.length≤6) {sm:List Bs} (hs:sm.length≤1000) (b:Bool):∀ H,CallOk E0 Tryz.prog 65 [.agg c.cells,slV b 1 (Zp sm)] H (slV true 4 (Za (kyN sm c.ag c.ag.length))) H:=by
 obtain ⟨la,lb,na,nb⟩:=hc
 have hbl:=fun n=>Zcl sm h6 n
 obtain ⟨an,ag,bn,bad⟩:=c
 simp only [Ca.cells] at la lb na nb h6 hbl ⊢
 have hsl:=Zw ag
 refine Jw tOk fe65.ok (ZD _ _ _ _ _) ?_ (by simp only [Zz,Yk];simp only [frzG,XS,ZC])
 repeat' first|refine Jo ?_|fail
 refine Wp.while (fun m tm H => ∃ (i : Nat) (base : TM) (v : PV) (lv : List Nat) (nt : Nat), i + m = ag.length ∧ ApV true 4 (Za (kyN sm ag i)) v lv nt ∧
   tm=ovr base [(1,slV b 1 (Zp sm)),(2,.ptr 0 2 0 0),(5,v),(6,.int .i64 (i:Int))]∧H=⟨[.cells 2 [[slV an 1 (Zp ag),slV bn 1 (Zp bad)]]],0,lv,nt⟩)
  (fun m tm H hI=>?_) ag.length _ _ ⟨0,_,_,_,_,by omega,.nil _ _ rfl,Zf ⟨rfl,rfl,rfl,rfl,trivial⟩,rfl⟩
 obtain ⟨i,base,v,lv,nt,hi,hM,rfl,rfl⟩:=hI
 by_cases hlt:i<ag.length
 · obtain ⟨a, ha⟩ : ∃ a, ag[i]? = some a := ⟨ag[i], by simp⟩
   have hj:=ZW ha
   have hlx:=Zr (i:Int) ((Zp ag).length:Int)
   rw [decide_eq_true (by omega)] at hlx
   have k1:=c61 hs a b
   have k2:=c98 a
   obtain ⟨v2,lv2,nt2,hapP,hM2⟩:=Zah hM (prT a) (by have:=hbl i (by omega);omega)
   have hbi:=hbl i (by omega)
   have hsn:=ZbE (some:=sm) ha
   have hP:∃ P,P=prL sm a:=⟨_,rfl⟩
   obtain ⟨P,hP⟩:=hP
   have hP1:=Zcf sm a
   rw [← hP] at hsn hP1
   unfold prL at hP
   have y1:=Xd (ixS a sm 0) 0
   by_cases hm1:Xt a sm=true
   · rw [if_pos hm1] at hP
     have hM':ApV true 4 (Za (kyN sm ag i++P)) v2 lv2 nt2:=by rw [hP];exact hM2
     have hm2:=hm1
     unfold Xt at hm2
     rw [hm2] at y1
     clear hm2
     generalize ixS a sm 0=K1 at k1 y1
     clear hM hM2 hP
     generalize prT a=T at k2 hapP
     obtain ⟨k',nm',s',b',kz'⟩:=T
     simp only [Tm.cells] at k2 hapP
     repeat' first|refine Jc (k1 _) ?_|refine Jc (k2 _) ?_|refine Js ?_|refine JA ?_|refine Ji ?_|refine Jl ?_|refine Jx ?_|refine Jo ?_|fail
     clear hapP
     refine Wp.while (fun m2 tm H => ∃ (k : Nat) (base : TM) (w : PV) (lv : List Nat) (nt : Nat), k + m2 = ag.length ∧ ApV true 4 (Za (kyN sm ag i ++ P ++ kyI sm ag a i k)) w lv nt ∧
       tm=ovr base [(1,slV b 1 (Zp sm)),(2,.ptr 0 2 0 0),(5,w),(6,.int .i64 (i:Int)),(7,.str a),(8,.int .i64 (k:Int))]∧H=⟨[.cells 2 [[slV an 1 (Zp ag),slV bn 1 (Zp bad)]]],0,lv,nt⟩)
      (fun m2 tm H hI=>?_) ag.length _ _ ⟨0,_,_,_,_,by omega,by rw [show kyI sm ag a i 0= [] from rfl,List.append_nil];exact hM',Zf ⟨rfl,rfl,rfl,rfl,rfl,rfl,trivial⟩,rfl⟩
     obtain ⟨k,base,w,lv3,nt3,hk2,hW,rfl,rfl⟩:=hI
     by_cases hlk:k<ag.length
     · obtain ⟨d, hd⟩ : ∃ d, ag[k]? = some d := ⟨ag[k], by simp⟩
       have hjd:=ZW hd
       have hly:=Zr (k:Int) ((Zp ag).length:Int)
       rw [decide_eq_true (by omega)] at hly
       have k3:=c61 hs d b
       have k4:=c99 a d
       have hne:=ZaC (i:Int) (k:Int)
       have hin:=Zcs sm ag a i k
       have hlw:(kyN sm ag i++P++kyI sm ag a i k).length≤1000:=by simp only [List.length_append];omega
       obtain ⟨w2,lv4,nt4,hap,hW2⟩:=Zah hW (shT a d) (by omega)
       have hsi:=Zb5 (some:=sm) (a:=a) (i:=i) hd
       unfold kyG at hsi
       rw [hm1] at hsi
       unfold Xt at hsi
       have y2:=Xd (ixS d sm 0) 0
       generalize ixS d sm 0=K2 at k3 y2 hsi
       generalize decide (0≤K2)=M2 at y2 hsi
       generalize decide ((i:Int)=(k:Int))=N at hne hsi
       generalize hT:shT a d=T at k4 hap hsi hW2
       obtain ⟨k',nm',s',b',kz'⟩:=T
       simp only [Tm.cells] at k4 hap
       cases N
       · cases M2
         · skip
           rw [if_pos (by simp)] at hsi
           repeat' first|refine Jk ?_|refine Jc (k1 _) ?_|refine Jc (k4 _) ?_|refine Js ?_|refine JA ?_|refine Ji ?_|refine Jl ?_|refine Jx ?_|refine Jt ?_|refine Jo ?_|fail
           exact LoopI.go (m2-1) (by omega) ⟨k+1,_,w2,lv4,nt4,by omega,by rw [hsi, ← List.append_assoc];exact hW2,Zf ⟨rfl,rfl,rfl,rfl,rfl,Ze (Zd (n:=k+1) (by omega)),trivial⟩,rfl⟩
         · skip
           rw [if_pos (by simp)] at hsi
           repeat' first|refine Jk ?_|refine Jc (k1 _) ?_|refine Jc (k4 _) ?_|refine Js ?_|refine JA ?_|refine Ji ?_|refine Jl ?_|refine Jx ?_|refine Jt ?_|refine Jo ?_|fail
           exact LoopI.go (m2-1) (by omega) ⟨k+1,_,w2,lv4,nt4,by omega,by rw [hsi, ← List.append_assoc];exact hW2,Zf ⟨rfl,rfl,rfl,rfl,rfl,Ze (Zd (n:=k+1) (by omega)),trivial⟩,rfl⟩
       · rw [if_neg (by simp), List.append_nil] at hsi
         repeat' first|refine Jk ?_|refine Ji ?_|refine Jl ?_|refine Jx ?_|refine Jt ?_|refine Jo ?_|fail
         exact LoopI.go (m2-1) (by omega) ⟨k+1,_,w,lv3,nt3,by omega,by rw [hsi];exact hW,Zf ⟨rfl,rfl,rfl,rfl,rfl,Ze (Zd (n:=k+1) (by omega)),trivial⟩,rfl⟩
     · have e : k = ag.length := by omega
       subst e
       have hly:=Zr (ag.length:Int) ((Zp ag).length:Int)
       rw [decide_eq_false (by omega)] at hly
       repeat' first|refine Ji ?_|refine Jl ?_|refine Jo ?_|fail
       rw [List.append_assoc, ← hsn] at hW
       exact LoopI.go (m-1) (by omega) ⟨i+1,_,w,lv3,nt3,by omega,hW,Zf ⟨rfl,rfl,rfl,Ze (Zd (n:=i+1) (by omega)),trivial⟩,rfl⟩
   · rw [if_neg hm1] at hP
     have hM':ApV true 4 (Za (kyN sm ag i++P)) v lv nt:=by rw [hP,List.append_nil];exact hM
     have hm1:Xt a sm=false:=by simpa using hm1
     have hm2:=hm1
     unfold Xt at hm2
     rw [hm2] at y1
     clear hm2
     generalize ixS a sm 0=K1 at k1 y1
     clear hM hM2 hP
     repeat' first|refine Jc (k1 _) ?_|refine Ji ?_|refine Jl ?_|refine Jx ?_|refine Jo ?_|fail
     clear hapP
     refine Wp.while (fun m2 tm H => ∃ (k : Nat) (base : TM) (w : PV) (lv : List Nat) (nt : Nat), k + m2 = ag.length ∧ ApV true 4 (Za (kyN sm ag i ++ P ++ kyI sm ag a i k)) w lv nt ∧
       tm=ovr base [(1,slV b 1 (Zp sm)),(2,.ptr 0 2 0 0),(5,w),(6,.int .i64 (i:Int)),(7,.str a),(8,.int .i64 (k:Int))]∧H=⟨[.cells 2 [[slV an 1 (Zp ag),slV bn 1 (Zp bad)]]],0,lv,nt⟩)
      (fun m2 tm H hI=>?_) ag.length _ _ ⟨0,_,_,_,_,by omega,by rw [show kyI sm ag a i 0= [] from rfl,List.append_nil];exact hM',Zf ⟨rfl,rfl,rfl,rfl,rfl,rfl,trivial⟩,rfl⟩
     obtain ⟨k,base,w,lv3,nt3,hk2,hW,rfl,rfl⟩:=hI
     by_cases hlk:k<ag.length
     · obtain ⟨d, hd⟩ : ∃ d, ag[k]? = some d := ⟨ag[k], by simp⟩
       have hjd:=ZW hd
       have hly:=Zr (k:Int) ((Zp ag).length:Int)
       rw [decide_eq_true (by omega)] at hly
       have k3:=c61 hs d b
       have k4:=c99 a d
       have hne:=ZaC (i:Int) (k:Int)
       have hin:=Zcs sm ag a i k
       have hlw:(kyN sm ag i++P++kyI sm ag a i k).length≤1000:=by simp only [List.length_append];omega
       obtain ⟨w2,lv4,nt4,hap,hW2⟩:=Zah hW (shT a d) (by omega)
       have hsi:=Zb5 (some:=sm) (a:=a) (i:=i) hd
       unfold kyG at hsi
       rw [hm1] at hsi
       unfold Xt at hsi
       have y2:=Xd (ixS d sm 0) 0
       generalize ixS d sm 0=K2 at k3 y2 hsi
       generalize decide (0≤K2)=M2 at y2 hsi
       generalize decide ((i:Int)=(k:Int))=N at hne hsi
       generalize hT:shT a d=T at k4 hap hsi hW2
       obtain ⟨k',nm',s',b',kz'⟩:=T
       simp only [Tm.cells] at k4 hap
       cases N
       · cases M2
         · skip
           rw [if_neg (by simp),List.append_nil] at hsi
           repeat' first|refine Jc (k1 _) ?_|refine Jc (k3 _) ?_|refine Ji ?_|refine Jl ?_|refine Jx ?_|refine Jt ?_|refine Jo ?_|fail
           exact LoopI.go (m2-1) (by omega) ⟨k+1,_,w,lv3,nt3,by omega,by rw [hsi];exact hW,Zf ⟨rfl,rfl,rfl,rfl,rfl,Ze (Zd (n:=k+1) (by omega)),trivial⟩,rfl⟩
         · skip
           rw [if_pos (by simp)] at hsi
           repeat' first|(apply qCl;rfl;rfl;rfl;rfl;first|exact k1 _|exact k3 _|exact k4 _)|refine Js ?_|refine JA ?_|refine Ji ?_|refine Jl ?_|refine Jx ?_|refine Jt ?_|refine Jo ?_|fail
           exact LoopI.go (m2-1) (by omega) ⟨k+1,_,w2,lv4,nt4,by omega,by rw [hsi, ← List.append_assoc];exact hW2,Zf ⟨rfl,rfl,rfl,rfl,rfl,Ze (Zd (n:=k+1) (by omega)),trivial⟩,rfl⟩
       · rw [if_neg (by simp), List.append_nil] at hsi
         repeat' first|refine Jk ?_|refine Ji ?_|refine Jl ?_|refine Jx ?_|refine Jt ?_|refine Jo ?_|fail
         exact LoopI.go (m2-1) (by omega) ⟨k+1,_,w,lv3,nt3,by omega,by rw [hsi];exact hW,Zf ⟨rfl,rfl,rfl,rfl,rfl,Ze (Zd (n:=k+1) (by omega)),trivial⟩,rfl⟩
     · have e : k = ag.length := by omega
       subst e
       have hly:=Zr (ag.length:Int) ((Zp ag).length:Int)
       rw [decide_eq_false (by omega)] at hly
       repeat' first|refine Ji ?_|refine Jl ?_|refine Jo ?_|fail
       rw [List.append_assoc, ← hsn] at hW
       exact LoopI.go (m-1) (by omega) ⟨i+1,_,w,lv3,nt3,by omega,hW,Zf ⟨rfl,rfl,rfl,Ze (Zd (n:=i+1) (by omega)),trivial⟩,rfl⟩
 · have e : i = ag.length := by omega
   subst e
   have hlx:=Zr (ag.length:Int) ((Zp ag).length:Int)
   rw [decide_eq_false (by omega)] at hlx
   repeat' first|refine Ji ?_|refine Jl ?_|refine Jo ?_|fail
   exact hM.frz3 _ _
def Zik (c:Ca):List Tm×Int:=if c.err≠0 then ([],c.err) else (Qx (Zc6 c),0)
theorem c34 (hc:c.Sm):∀ H,CallOk E0 Tryz.prog 34 [.agg c.cells] H (.tup [slV true 4 (Za (Zik c).1),.int .i64 (Zik c).2]) H:=by
 have k1:=c31 hc
 unfold Zik
 by_cases he:c.err=0
 · rw [if_neg (by omega)]
   rw [he] at k1
   obtain ⟨h1,h2, -⟩:=err_len he
   obtain ⟨out,H',k2,bx',lv',nt',rfl,hA⟩:=c64 hc [] 0
   have k2:=((k2.free (by obtain ⟨an,ag,bn,bad⟩:=c;simp [ZN,under,Zj,Ca.cells]) (ZlF hA) []).over (by obtain ⟨an,ag,bn,bad⟩:=c;simp [ZN,under,Zj,Ca.cells]) [.cells 2 [c.cells]] 1)
   have k3:=c65 hc h2 (sm:=c.bad) (by have:=hc.lb;omega) c.bn
   have hkl:=Zcl c.bad h2 c.ag.length h2
   obtain ⟨out2,lv2,nt2,hap,hA2, -⟩:=hA.app Yd (.slV true 4 (Za (kyN c.bad c.ag c.ag.length))) (Zn _) (ZJ (by simp only [Zb,List.length_map];have:=hc.la;omega) (by decide)) (ZL _)
   rw [← Zt] at hA2
   have hX:c.ag.map puT++kyN c.bad c.ag c.ag.length=Zc6 c:=rfl
   rw [hX] at hA2
   have hok:∀ t,t∈Zc6 c→t.Ok∧t.size≤100000:=fun t ht=>by
    rcases List.mem_append.1 ht with h|h
    · obtain ⟨a, ha, rfl⟩ := List.mem_map.1 h
      have:=Zfh (hc.na a ha)
      exact ⟨this.1,by have:=this.2;omega⟩
    · rw [Zay (Vc _ _ (err_len he).2.2).1] at h
      have:=ZeX hc.na _ t h
      exact ⟨this.1,by have:=this.2;omega⟩
   have k4:=c35 true hok (by simp only [Zc6,List.length_append,List.length_map];have:=hc.la;omega)
   have hfz:Zz [out2]=some [slV true 4 (Za (Zc6 c))]:=by simp only [Zz,hA2.frzG]
   have k5:=fun H=>ZS (k4 H) hfz
   clear k4
   obtain ⟨kt,rfl⟩:=UV hA2 (fun e=>h1 (by
    have e2:=congrArg List.length e
    rw [Zb] at e2
    simp only [Zc6,List.length_append,List.length_map,List.length_nil] at e2
    exact List.length_eq_zero_iff.1 (by omega)))
   generalize Za (Zc6 c)=RL at hap k5
   have hfr:=UN 0 hNil (Qx (Zc6 c)) 0
   generalize Qx (Zc6 c)=M at k5 hfr ⊢
   generalize kyN c.bad c.ag c.ag.length=KY at k3 hap
   clear he hc h1 h2 hok hX hA hfz hkl
   obtain ⟨an,ag,bn,bad⟩:=c
   simp only [Ca.cells] at k1 k2 k3 ⊢
   refine ZU (own:=(fun d=>[5011].any (Nat.beq d))) tOk fe34.ok (by simp only [Zz,frzG,XS,ZC]) hfr ?_
   refine Wp.seq ?_
   repeat' first|refine Jc (k1 _) ?_|refine Jt ?_|refine Jo ?_|(apply dCt;rfl;rfl;rfl;rfl;rfl;exact k2)|refine Jd (k3 _) ?_|refine Jd (k5 _) ?_|(apply dAp;rfl;rfl;rfl;rfl;rfl;(first|assumption|solve_by_elim);rfl)|refine Jh ?_|(apply Wp.draw tOk follows;kernel_rfl)|fail
   all_goals exact UN _ _ _ _
 · rw [if_pos he]
   have n1:=X8 c.err 0
   rw [decide_eq_false he] at n1
   generalize c.err=e at k1 n1 ⊢
   obtain ⟨an,ag,bn,bad⟩:=c
   simp only [Ca.cells,Za,Zh] at k1 ⊢
   refine ZU (own:=(fun d=>[5011].any (Nat.beq d))) tOk fe34.ok (by simp only [Zz,frzG,XS,ZC]) rfl ?_
   refine Wp.seq ?_
   repeat' first|refine Jc (k1 _) ?_|refine Ji ?_|refine Jo ?_|fail
   all_goals rfl
