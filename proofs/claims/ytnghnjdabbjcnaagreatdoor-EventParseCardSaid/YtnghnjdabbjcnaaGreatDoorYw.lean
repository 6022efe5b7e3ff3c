/-
  Both texts read a trace alike; the law's function.
-/
import Derived.Test.YtnghnjdabbjcnaaGreatDoorYv
set_option maxHeartbeats 0
set_option maxRecDepth 100000
namespace Go.Vm.Seat
open Go.Proofs
theorem Zvk {l:List Mo} (hl:l.length≤420) (hok:∀m,m∈l→m.Ok) (hsz:∀m,m∈l→∀t,t∈m.terms→t.size<4611686018427387904) (b b':Bool):∀H,CO 13 [slV b 6 (moC l),slV b' 6 (moC l)] H (.bool true) H:=by
 refine Jw tOk fe13.ok rfl ?_;repeat' first|refine Jk ?_|refine KT ?_|refine Jb ?_ ?_|refine Jo ?_|refine KM ?_|refine KU ?_|(apply dB (ty:=4);rfl;rfl;rfl;rfl)|refine Kb ?_|intro hb
 {exfalso;simp at hb};refine Wp.while (fun m tm H => ∃(i : Nat) (base : TM), i + m = l.length ∧
   tm=ovr base [(0,slV b 6 (moC l)),(1,slV b' 6 (moC l)),(5,.int .i64 (i:Int))]∧H=hNil)
  (fun m tm H hI=>Wp.drop ?_) l.length _ _ ⟨0,_,by omega,Zd ⟨rfl,rfl,rfl,trivial⟩,rfl⟩
 obtain⟨i,base,hi,rfl,rfl⟩:=hI;by_cases hlt:i<l.length
 ·obtain⟨x,hx⟩:∃x,l[i]? = some x:=⟨l[i],by simp⟩;have hm:x∈l:=List.mem_of_getElem? hx;have ho:=hok x hm;have hz:=hsz x hm;have hj:=ZcN hx;have hc:=Zv6 ho.ts hz ho.tl x.tn x.tn;have hag:=ho.al;unfold maxLen at hag;obtain⟨kd,nu,ro,an,ag,go,tn,te⟩:=x;simp only[Mo.cells]at hj hc hag;repeat' first|refine Jk ?_|refine Jc (hc _) ?_|refine KT ?_|refine Jb ?_ ?_|refine Jo ?_|refine KM ?_|refine Jd (hc _) ?_|refine KU ?_|(apply dB (ty:=4);rfl;rfl;rfl;rfl)|refine Kb ?_|intro hb
  all_goals first
   | (exfalso;simp at hb;done)
   | skip
  ·refine Wp.while (fun m2 tm H => ∃(k : Nat) (base : TM), k + m2 = ag.length ∧
       tm=ovr base [(0,slV b 6 (moC l)),(1,slV b' 6 (moC l)),(5,.int .i64 (i:Int)),(6,.ptr 0 6 0 0),(7,.ptr 1 6 0 0),(8,.int .i64 (k:Int))]∧
       H=⟨[.cells 6 [[.int .i64 kd,.int .i64 nu,.int .i64 ro,slV an 1 (Zp ag),.int .i64 go,slV tn 4 (Za te)]],.cells 6 [[.int .i64 kd,.int .i64 nu,.int .i64 ro,slV an 1 (Zp ag),.int .i64 go,slV tn 4 (Za te)]]],0,[],0⟩)
     (fun m2 tm H hI=>?_) ag.length _ _ ⟨0,_,by omega,Zd ⟨rfl,rfl,rfl,rfl,rfl,rfl,trivial⟩,rfl⟩
   obtain⟨k,base,hk2,rfl,rfl⟩:=hI;by_cases hlk:k<ag.length
   ·obtain⟨y, hy⟩ : ∃y, ag[k]? = some y := ⟨ag[k], by simp⟩;have hj2:=YU hy;(repeat' first|refine Jk ?_|refine KT ?_|refine Jb ?_ ?_|refine Jo ?_|refine KM ?_|refine KU ?_|(apply dB (ty:=4);rfl;rfl;rfl;rfl)|refine Kb ?_|intro hb);all_goals first
     | exact LoopI.go (m2-1) (by omega) ⟨k+1,_,by omega,Zd ⟨rfl,rfl,rfl,rfl,rfl,Zg (Ze (n:=k+1) (by omega)),trivial⟩,rfl⟩
     | (exfalso;rw[Zu]at hb;simp at hb<;>omega)
     | (exfalso;simp at hb;done)
   ·(have e:k=ag.length:=by omega);subst e;(repeat' first|refine Jk ?_|refine KT ?_|refine Jb ?_ ?_|refine Jo ?_|refine KM ?_|refine KU ?_|(apply dB (ty:=4);rfl;rfl;rfl;rfl)|refine Kb ?_|intro hb);{exfalso;rw[Zu]at hb;simp at hb}
    ·exact DropQ.go [(0, slV b 6 (moC l)), (1, slV b' 6 (moC l)), (5, .int .i64 ((i + 1 : Nat) : Int))] ⟨rfl, rfl, Zg (Ze (n := i + 1) (by omega)), trivial⟩
       (by simp[Zl,under]) rfl rfl (LoopI.go (m-1) (by omega) ⟨i+1,_,by omega,rfl,rfl⟩)
  {exfalso;rw[WX]at hb;simp at hb<;>omega}
 ·have e:i=l.length:=by omega
  subst e;repeat' first|refine Jk ?_|refine KT ?_|refine Jb ?_ ?_|refine Jo ?_|refine KM ?_|refine KU ?_|(apply dB (ty:=4);rfl;rfl;rfl;rfl)|refine Kb ?_|intro hb
  {rw[WX]at hb;simp at hb};{rfl}
end Go.Vm.Seat
namespace Go.Vm
theorem ZmL:∀(l p:List Mo) (S:FSt),Kn S p→(Zfu S l p.length).2≠0→(Zfu S l p.length).1=(Zg4 p l).1
 | [],p,S,_,h=>absurd rfl h
 |m::r,p,S,h,hne=>by simp only[Zfu,Zg4]at hne ⊢;by_cases c:m.alone≠0;{rw[Zjg c,if_pos c,if_pos c]};have e:S.err m=S.bhd m:=if_neg c;rw[e,ZfT h]at hne ⊢;rw[if_neg c];by_cases c2:Vo p m false false≠0;{rw[if_pos c2,if_pos c2]};rw[if_neg c2]at hne ⊢;rw[if_neg c2];have h2:=Znq h (m:=m) (by rw[ZfT h];exact Classical.not_not.1 c2);have:=ZmL r (p++ [m]) _ h2;rw[List.length_append]at this;exact this hne
theorem Zll (l:List Mo) (h:(Yf l).2≠0):(Yf l).1=(YF l).1:=by unfold Yf YF at *;split;{rfl};{rename_i h9;rw[if_neg h9]at h;exact ZmL l [] _ ⟨fun _=>rfl,fun _=>rfl,fun _=>rfl⟩ h}
theorem Zgi (acc:List Mo):Zi4 Yf acc=Zi4 YF acc:=by unfold Zi4;rw[← Zhg];by_cases h:(Yf acc).2≠0;{rw[if_pos h,if_pos h,Zll acc h]};{rw[if_neg h,if_neg h]}
theorem ZgW:∀(L:List Z3) (n:Nat) (acc:List Mo),(∀x,x∈L→x.length≤2000)→VO YE Yf L n acc=VO XN YF L n acc
 | [],n,acc,_=>by rw[VO,VO,Zgi]
 |x::r,n,acc,h=>by
  rw[VO,VO,Zcs (h x List.mem_cons_self),Zgi];by_cases hr:r= [];{rw[if_pos hr,if_pos hr]}
  ·rw[if_neg hr,if_neg hr];cases XN x with
   | none=>rfl
   | some m=>exact ZgW r (n+1) (acc++ [m]) fun y hy=>h y (List.mem_cons_of_mem _ hy)
theorem ZiR {acc:List Mo} (ha:∀m,m∈acc→m.Sm):(∀m,m∈(Zi4 Yf acc).1→m.Sm)∧(Zi4 Yf acc).1.length≤400:=by unfold Zi4;by_cases h:(Yf acc).2≠0;{rw[if_pos h];exact⟨by simp,by simp⟩};{rw[if_neg h];refine⟨ha,?_⟩;by_cases h4:400<acc.length;{exact absurd (by unfold Yf;rw[if_pos h4];decide) h};{show acc.length≤400;omega}}
theorem ZkP:∀(L:List Z3) (n:Nat) (acc:List Mo),(∀x,x∈L→x.length≤2000)→(∀m,m∈acc→m.Sm)→(∀m,m∈(VO YE Yf L n acc).1→m.Sm)∧(VO YE Yf L n acc).1.length≤400
 | [],n,acc,_,ha=>by rw[VO];exact ZiR ha
 |x::r,n,acc,h,ha=>by
  have hx:=h x List.mem_cons_self;by_cases hr:r= [];{subst hr;rw[UM];split;{exact ZiR ha};{exact⟨by simp,by simp⟩}}
  ·cases hm:YE x with
   | none=>rw[Ze1 hr hm];exact⟨by simp,by simp⟩
   | some m=>rw[ZcH hr hm];refine ZkP r (n+1) (acc++ [m]) (fun y hy=>h y (List.mem_cons_of_mem _ hy)) fun y hy=>?_;rcases List.mem_append.1 hy with hy|hy;{exact ha y hy};{rw[List.mem_singleton]at hy;subst hy;rw[Zcs hx]at hm;exact ZcX hx hm}
end Go.Vm
namespace Go.Vm.Seat
open Go.Proofs
theorem c4 (awakeOk:∀H,CO 5 [] H (.bool true) H) (S:Z3):∀H,CO 4 [.str S] H (.bool true) H:=by
 have hg:=Y7 (S.length:Int) 2000;refine Jw tOk fe4.ok rfl ?_;by_cases hl:2000<S.length
 ·rw[decide_eq_true (by omega)]at hg;repeat' first|refine Jc (awakeOk _) ?_|refine Kd ?_|fail
  all_goals rfl
 ·rw[decide_eq_false (by omega)]at hg;have cP:=c12 (fun s hs=>Zcs hs) (S:=S) (by omega);have cR:=c14 (S:=S) (by omega);have hx:∀x,x∈spl [10] S→x.length≤2000:=fun x hx=>by have:=Qm hx;omega
  rw[← ZgW _ 0 [] hx]at cR;obtain⟨o1,o2⟩:=ZkP _ 0 [] hx (by simp);generalize VO YE Yf (spl [10] S) 0 []=R at cP cR o1 o2;obtain⟨l,n,e⟩:=R;simp only at cP cR o1 o2;have cS:=Zvk (l:=l) (by omega) (fun m hm=>(o1 m hm).ok) (fun m hm t ht=>by have:=((o1 m hm).ts t ht).2;omega) true true;have h1:YS E0 .eql 25 (.int .i64 e) (.int .i64 e)=some (.bool true):=by show some (PV.bool (e==e))=_;simp
  have h2:YS E0 .eql 3 (.int .i64 n) (.int .i64 n)=some (.bool true):=by show some (PV.bool (n==n))=_;simp
  repeat' first|(apply qCl;rfl;rfl;rfl;rfl;first|exact awakeOk _|exact cP _|exact cR _|exact cS _)|refine Kd ?_|fail
  all_goals rfl
