/-
  The first wrong moment of a trace: the second text, walked.
-/
import Derived.Test.YtcopccjkfbmpcaaGreatDoorQf
set_option maxHeartbeats 0
set_option maxRecDepth 100000
namespace Go.Vm
variable {S:FSt} {p:List Mo} {m x:Mo} {e s:Bool} {i:Nat}
def Vx:List Mo→Mo→Bool→Bool→Int
 | [],m,s,e=>if (decide (m.kind=1)&&s)=true then 5 else if (!decide (m.kind=1)&&(!decide (m.kind=6)&&(!s||e)))=true then 9 else 0
 |x::r,m,s,e=>if m.kind=6∧x.kind=6∧x.hd=m.hd then 5 else if x.num=m.num then Vx r m (s||decide (x.kind=1)) (e||decide (x.kind=7)) else Vx r m s e
def ZkV:List Mo→List Mo→Int×Int
 |_,[]=>(-1,0)
 |p,m::r=>if m.alone≠0 then ((p.length:Int),m.alone) else if Vx p m false false≠0 then ((p.length:Int),Vx p m false false) else ZkV (p++ [m]) r
def Zbo (l:List Mo):Int×Int:=if 400<l.length then (-1,3) else ZkV [] l
def ZdV (p:List Mo) (k n:Int):Bool:=p.any fun x=>decide (x.num=n)&&decide (x.kind=k)
def Zgl (p:List Mo) (a:Bs):Bool:=p.any fun x=>decide (x.kind=6)&&decide (x.hd=a)
theorem ZhY (m:Mo):∀ (p:List Mo) (s e:Bool),Vx p m s e=if m.kind=6 then (if Zgl p m.hd=true then 5 else 0) else if m.kind=1 then (if (s||ZdV p 1 m.num)=true then 5 else 0) else if (!(s||ZdV p 1 m.num)||(e||ZdV p 7 m.num))=true then 9 else 0
 | [], s, e => by
   have a1:¬ Zgl [] m.hd=true:=by simp [Zgl]
   have a2:∀ k,ZdV [] k m.num=false:=fun _=>rfl
   rw [if_neg a1,a2,a2,Bool.or_false,Bool.or_false]
   simp only [Vx]
   by_cases h6:m.kind=6
   · rw [if_neg (by simp [h6]),if_neg (by simp [h6]),if_pos h6]
   rw [if_neg h6]
   by_cases h1:m.kind=1
   · rw [if_pos h1]
     cases s
     · rw [if_neg (by simp),if_neg (by simp [h1])];rfl
     · rw [if_pos (by simp [h1])];rfl
   rw [if_neg h1,if_neg (by simp [h1])]
   simp only [h1,h6,decide_false,Bool.not_false,Bool.true_and]
 | x :: r, s, e => by
   simp only [Vx]
   have ih:=ZhY m r
   by_cases h6:m.kind=6
   · rw [if_pos h6]
     by_cases hx:x.kind=6∧x.hd=m.hd
     · rw [if_pos ⟨h6, hx⟩, if_pos]
       simp [Zgl,hx.1,hx.2]
     · rw [if_neg fun h => hx h.2]
       have e1:Zgl (x::r) m.hd=Zgl r m.hd:=by
        simp only [Zgl,List.any_cons]
        rw [show (decide (x.kind=6)&&decide (x.hd=m.hd))=false by
         cases h:(decide (x.kind=6)&&decide (x.hd=m.hd)) with
         | false=>rfl
         | true=>rw [Bool.and_eq_true,decide_eq_true_eq,decide_eq_true_eq] at h;exact absurd h hx,Bool.false_or]
       rw [e1,ih,ih,if_pos h6,if_pos h6,ite_self]
   · rw [if_neg fun h => h6 h.1, ih, ih, if_neg h6, if_neg h6, if_neg h6]
     have e1:∀ k,ZdV (x::r) k m.num=((decide (x.num=m.num)&&decide (x.kind=k))||ZdV r k m.num):=fun k=>rfl
     rw [e1,e1]
     by_cases hn:x.num=m.num
     · rw [if_pos hn]
       simp only [hn,decide_true,Bool.true_and,Bool.or_assoc]
     · rw [if_neg hn]
       simp only [hn,decide_false,Bool.false_and,Bool.false_or]
structure Kn (S:FSt) (p:List Mo):Prop where
 a:∀ n,lkB n S.a=ZdV p 1 n
 b:∀ n,lkB n S.b=ZdV p 7 n
 r:∀ s,lkB s S.r=Zgl p s
theorem ZkE (h:Kn S p) (m:Mo):S.bhd m=Vx p m false false:=by
 rw [ZhY]
 unfold FSt.bhd
 rw [h.a,h.b,h.r,Bool.false_or,Bool.false_or]
 congr 2
 cases ZdV p 1 m.num<;>cases ZdV p 7 m.num<;>simp
theorem Wm (p:List Mo) (m:Mo) (k n:Int):ZdV (p++ [m]) k n=(ZdV p k n||(decide (m.num=n)&&decide (m.kind=k))):=by simp [ZdV]
theorem ZcF (p:List Mo) (m:Mo) (a:Bs):Zgl (p++ [m]) a=(Zgl p a||(decide (m.kind=6)&&decide (m.hd=a))):=by simp [Zgl]
theorem Zn7 (h:Kn S p) (hb:S.bhd m=0):Kn (S.nxt m) (p++ [m]):=by
 obtain ⟨h1,h2,h3⟩:=h
 unfold FSt.bhd at hb
 unfold FSt.nxt
 by_cases h6:m.kind=6
 · rw [if_pos h6]
   refine ⟨fun n=>?_,fun n=>?_,fun s=>?_⟩
   · rw [Wm,h1,h6];simp
   · rw [Wm,h2,h6];simp
   · rw [ZcF]
     show lkB s (upB m.hd true S.r)=_
     rw [Zjn,h3,h6]
     by_cases e:s=m.hd
     · rw [if_pos e,e];simp
     · rw [if_neg e]
       have:¬ m.hd=s:=fun h=>e h.symm
       simp [this]
 rw [if_neg h6] at hb ⊢
 have hH:∀ s,lkB s S.r=Zgl (p++ [m]) s:=fun s=>by rw [ZcF,h3];simp [h6]
 by_cases e1:m.kind=1
 · rw [if_pos e1]
   refine ⟨fun n=>?_,fun n=>?_,hH⟩
   · rw [Wm]
     show lkB n (upB m.num true S.a)=_
     rw [Zjn,h1,e1]
     by_cases e:n=m.num
     · rw [if_pos e,e];simp
     · rw [if_neg e]
       have:¬ m.num=n:=fun h=>e h.symm
       simp [this]
   · rw [Wm,h2,e1];simp
 rw [if_neg e1] at hb ⊢
 refine ⟨fun n=>?_,fun n=>?_,hH⟩
 · rw [Wm,h1];simp [e1]
 · rw [Wm]
   show lkB n (upB m.num (decide (m.kind=7)) S.b)=_
   rw [Zjn,h2]
   by_cases e:n=m.num
   · rw [if_pos e, e]
     have hb2:ZdV p 7 m.num=false:=by
      rw [h1,h2] at hb
      split at hb
      · cases hb
      · rename_i hx
        cases hy:ZdV p 7 m.num with
        | false=>rfl
        | true=>exact absurd (.inr hy) hx
     rw [hb2];simp
   · rw [if_neg e]
     have:¬ m.num=n:=fun h=>e h.symm
     simp [this]
theorem Ze4:∀ (l p:List Mo) (S:FSt),Kn S p→(Zi4 S l p.length).2=(ZkV p l).2
 | [],p,S,_=>rfl
 | m :: r, p, S, h => by
   simp only [Zi4,ZkV]
   by_cases c:m.alone≠0
   · rw [ZiA c,if_pos c,if_pos c]
   have e:S.err m=S.bhd m:=if_neg c
   rw [e,ZkE h,if_neg c]
   by_cases c2:Vx p m false false≠0
   · rw [if_pos c2,if_pos c2]
   rw [if_neg c2,if_neg c2]
   have h2:=Zn7 h (m:=m) (by rw [ZkE h];exact Classical.not_not.1 c2)
   have:=Ze4 r (p++ [m]) _ h2
   rwa [List.length_append] at this
theorem Zgh (l:List Mo):(Yp l).2=(Zbo l).2:=by
 unfold Yp Zbo
 split
 · rfl
 · exact Ze4 l [] _ ⟨fun _=>rfl,fun _=>rfl,fun _=>rfl⟩
theorem Zk3 {E : Env} {t e : TypeId} {ti ei : TI} {es : Nat} (hT : E.T t = some ti) (hk : ti.tk = .slice e) (he : E.T e = some ei) (hes : ei.size = es) (b : Bool) {L : List (List PV)} (hne : L ≠ []) {k : Nat} (hl : k ≤ L.length) :
  Xb E t (slV b es L) none (some (.int .i64 (k:Int))) none=some (slV false es (L.take k)):=by
 have hn:nat? (.int .i64 (k:Int))=some k:=by simp [nat?]
 obtain ⟨c,r,rfl⟩:∃ c r,L=c::r:=by cases L with
  | nil=>exact absurd rfl hne
  | cons c r=>exact ⟨c,r,rfl⟩
 rw [Zm,Z0]
 simp only [Xb,hT,hk,he,hes,if_true,Zc0,Wg,hn]
 rw [if_pos (by simpa using hl)]
 simp [Zej]
theorem Zjb (l:List Mo) (k:Nat):(moC l).take k=moC (l.take k):=by simp [moC]
theorem Zhs (l:List ZcM) (k:Nat):(Zp l).take k=Zp (l.take k):=by simp [Zp]
theorem Zad (h:p[i]? = some x) (m:Mo) (s e:Bool):Vx (p.drop i) m s e=if m.kind=6∧x.kind=6∧x.hd=m.hd then 5 else if x.num=m.num then Vx (p.drop (i+1)) m (s||decide (x.kind=1)) (e||decide (x.kind=7)) else Vx (p.drop (i+1)) m s e:=by
 rw [Zu h];rfl
theorem Zst (h:p[i]? = some x) (h1:m.kind=6) (h2:x.kind=6) (h3:x.hd=m.hd):Vx (p.drop i) m s e=5:=by
 rw [Zad h,if_pos ⟨h1,h2,h3⟩]
theorem Zqt (h:p[i]? = some x) (h1:¬ (m.kind=6∧x.kind=6∧x.hd=m.hd)) (h2:x.num=m.num):Vx (p.drop i) m s e=Vx (p.drop (i+1)) m (s||decide (x.kind=1)) (e||decide (x.kind=7)):=by
 rw [Zad h,if_neg h1,if_pos h2]
theorem Zqr (h:p[i]? = some x) (h1:¬ (m.kind=6∧x.kind=6∧x.hd=m.hd)) (h2:¬ x.num=m.num):Vx (p.drop i) m s e=Vx (p.drop (i+1)) m s e:=by
 rw [Zad h,if_neg h1,if_neg h2]
theorem Zi1 {l:List Mo} (h:l[i]? = some m):ZkV p (l.drop i)=if m.alone≠0 then ((p.length:Int),m.alone) else if Vx p m false false≠0 then ((p.length:Int),Vx p m false false) else ZkV (p++ [m]) (l.drop (i+1)):=by
 rw [Zu h];rfl
end Go.Vm
namespace Go.Vm.Seat
variable {l:List Mo}
open Go.Proofs
theorem Zhv (a b:Bs):X7 E0 .eql 9 (.str a) (.str b)=some (.bool (decide (a=b))):=by
 show some (PV.bool (a==b))=_
 by_cases h:a=b<;>simp [h]
theorem c96 {p : List Mo} (hp : p.length ≤ 1000) {m : Mo} (h6 : m.kind = 6 → ∃ a, m.agents = [a]) (hp6 : ∀ x, x ∈ p → x.kind = 6 → ∃ a, x.agents = [a]) (b : Bool) :
  ∀ H,CallOk E0 Tryz.prog 96 [slV b 6 (moC p),.agg m.cells] H (.int .i64 (Vx p m false false)) H:=by
 have hcl:=Y4 p
 obtain ⟨kd,nu,ro,an,ag,go,tn,te⟩:=m
 simp only [Mo.cells] at h6 ⊢
 refine Jw tOk fe96.ok rfl ?_ (by simp only [Zz,Yk];simp only [frzG,XS,ZC];rfl)
 repeat' first|refine Jt ?_|refine Jo ?_|fail
 have K6:=Z2 kd 6
 refine Wp.while (fun m2 tm H=>∃ (i:Nat) (base:TM) (s e:Bool),i+m2=p.length∧Vx p ⟨kd,nu,ro,an,ag,go,tn,te⟩ false false=Vx (p.drop i) ⟨kd,nu,ro,an,ag,go,tn,te⟩ s e∧tm=ovr base [(0,slV b 6 (moC p)),(3,.ptr 0 6 0 0),(5,.bool s),(6,.bool e),(7,.int .i64 (i:Int))]∧H=⟨[.cells 6 [[.int .i64 kd,.int .i64 nu,.int .i64 ro,slV an 1 (Zp ag),.int .i64 go,slV tn 4 (Za te)]]],0,[],0⟩)
  (fun m2 tm H hI=>?_) p.length _ _ ⟨0,_,false,false,by omega,by simp,Zf ⟨rfl,rfl,rfl,rfl,rfl,trivial⟩,rfl⟩
 obtain ⟨i,base,s,e,hi,hgo,rfl,rfl⟩:=hI
 rw [hgo]
 clear hgo
 by_cases hlt:i<p.length
 · obtain ⟨x, hx⟩ : ∃ x, p[i]? = some x := ⟨p[i], by simp⟩
   have hj:=Va hx
   have hx6:=hp6 x (List.mem_of_getElem? hx)
   have hlx:=Zr (i:Int) ((moC p).length:Int)
   rw [decide_eq_true (by omega)] at hlx
   obtain ⟨kd2,nu2,ro2,an2,ag2,go2,tn2,te2⟩:=x
   simp only [Mo.cells] at hj
   have J6:=Z2 kd2 6
   have W1:=Z2 kd2 1
   have W7:=Z2 kd2 7
   have N1:=Z2 nu2 nu
   simp only at hx6
   by_cases hk:kd=6∧kd2=6
   · obtain ⟨a, rfl⟩ := h6 hk.1
     obtain ⟨a2,rfl⟩:=hx6 hk.2
     have ha:=ZW (l:=[a]) (i:=0) rfl
     have ha2:=ZW (l:=[a2]) (i:=0) rfl
     have S3:=Zhv a2 a
     rw [decide_eq_true hk.1] at K6
     rw [decide_eq_true hk.2] at J6
     by_cases hs:a2=a
     · rw [decide_eq_true hs] at S3
       have hE:Vx (p.drop i) ⟨kd,nu,ro,an,[a],go,tn,te⟩ s e=5:=Zst hx hk.1 hk.2 hs
       rw [hE]
       repeat' first|refine Ji ?_|refine Jl ?_|refine Jo ?_|refine JD ?_|refine JI ?_|(apply dT (ty:=4);rfl;rfl;rfl;rfl)|refine Jh ?_|(apply Wp.draw tOk follows;kernel_rfl)|fail
       all_goals rfl
     rw [decide_eq_false hs] at S3
     by_cases hN:nu2=nu
     · rw [decide_eq_true hN] at N1
       have hE:Vx (p.drop i) ⟨kd,nu,ro,an,[a],go,tn,te⟩ s e=Vx (p.drop (i+1)) ⟨kd,nu,ro,an,[a],go,tn,te⟩ (s||decide (kd2=1)) (e||decide (kd2=7)):=Zqt hx (fun h=>hs h.2.2) hN
       rw [hE]
       generalize decide (kd2=1)=w1 at W1 ⊢
       generalize decide (kd2=7)=w7 at W7 ⊢
       clear hE
       cases s<;>cases e
       all_goals
        repeat' first|refine Jk ?_|refine Ji ?_|refine Jl ?_|refine Jx ?_|refine Jt ?_|refine Jo ?_|refine JD ?_|refine JI ?_|(apply dT (ty:=4);rfl;rfl;rfl;rfl)|(apply dF (ty:=4);rfl;rfl;rfl;rfl)|refine Jh ?_|(apply Wp.draw tOk follows;kernel_rfl)|fail
        exact LoopI.go (m2-1) (by omega) ⟨i+1,_,_,_,by omega,rfl,Zf ⟨rfl,rfl,rfl,rfl,Ze (Zd (n:=i+1) (by omega)),trivial⟩,rfl⟩
     · rw [decide_eq_false hN] at N1
       have hE:Vx (p.drop i) ⟨kd,nu,ro,an,[a],go,tn,te⟩ s e=Vx (p.drop (i+1)) ⟨kd,nu,ro,an,[a],go,tn,te⟩ s e:=Zqr hx (fun h=>hs h.2.2) hN
       rw [hE]
       repeat' first|refine Ji ?_|refine Jl ?_|refine Jo ?_|refine JD ?_|refine JI ?_|(apply dT (ty:=4);rfl;rfl;rfl;rfl)|(apply dF (ty:=4);rfl;rfl;rfl;rfl)|refine Jh ?_|(apply Wp.draw tOk follows;kernel_rfl)|fail
       exact LoopI.go (m2-1) (by omega) ⟨i+1,_,_,_,by omega,rfl,Zf ⟨rfl,rfl,rfl,rfl,Ze (Zd (n:=i+1) (by omega)),trivial⟩,rfl⟩
   · clear h6 hx6
     have hor:decide (kd=6)=false∨(decide (kd=6)=true∧decide (kd2=6)=false):=by
      by_cases h:kd=6
      · right
        exact ⟨decide_eq_true h,decide_eq_false fun h2=>hk ⟨h,h2⟩⟩
      · exact .inl (decide_eq_false h)
     generalize decide (kd=6)=D6 at K6 hor
     generalize decide (kd2=6)=E6 at J6 hor
     by_cases hN:nu2=nu
     · rw [decide_eq_true hN] at N1
       have hE:Vx (p.drop i) ⟨kd,nu,ro,an,ag,go,tn,te⟩ s e=Vx (p.drop (i+1)) ⟨kd,nu,ro,an,ag,go,tn,te⟩ (s||decide (kd2=1)) (e||decide (kd2=7)):=Zqt hx (fun h=>hk ⟨h.1,h.2.1⟩) hN
       rw [hE]
       generalize decide (kd2=1)=w1 at W1 ⊢
       generalize decide (kd2=7)=w7 at W7 ⊢
       clear hE
       rcases hor with rfl|⟨rfl,rfl⟩<;>cases s<;>cases e
       all_goals
        repeat' first|refine Jk ?_|refine Ji ?_|refine Jl ?_|refine Jx ?_|refine Jt ?_|refine Jo ?_|(apply dK;rfl;rfl;rfl)|refine JD ?_|refine JI ?_|(apply dT (ty:=4);rfl;rfl;rfl;rfl)|(apply dF (ty:=4);rfl;rfl;rfl;rfl)|refine Jh ?_|(apply Wp.draw tOk follows;kernel_rfl)|fail
        exact LoopI.go (m2-1) (by omega) ⟨i+1,_,_,_,by omega,rfl,Zf ⟨rfl,rfl,rfl,rfl,Ze (Zd (n:=i+1) (by omega)),trivial⟩,rfl⟩
     · rw [decide_eq_false hN] at N1
       have hE:Vx (p.drop i) ⟨kd,nu,ro,an,ag,go,tn,te⟩ s e=Vx (p.drop (i+1)) ⟨kd,nu,ro,an,ag,go,tn,te⟩ s e:=Zqr hx (fun h=>hk ⟨h.1,h.2.1⟩) hN
       rw [hE]
       rcases hor with rfl|⟨rfl,rfl⟩
       all_goals
        repeat' first|refine Ji ?_|refine Jl ?_|refine Jo ?_|(apply dK;rfl;rfl;rfl)|refine JD ?_|refine JI ?_|(apply dT (ty:=4);rfl;rfl;rfl;rfl)|(apply dF (ty:=4);rfl;rfl;rfl;rfl)|refine Jh ?_|(apply Wp.draw tOk follows;kernel_rfl)|fail
        exact LoopI.go (m2-1) (by omega) ⟨i+1,_,_,_,by omega,rfl,Zf ⟨rfl,rfl,rfl,rfl,Ze (Zd (n:=i+1) (by omega)),trivial⟩,rfl⟩
 · have ei : i = p.length := by omega
   subst ei
   have hlx:=Zr (p.length:Int) ((moC p).length:Int)
   rw [decide_eq_false (by omega)] at hlx
   rw [List.drop_length]
   simp only [Vx]
   have Q1:=Z2 kd 1
   have P1:=ZaC kd 1
   have P6:=ZaC kd 6
   generalize decide (kd=1)=B1 at Q1 P1 ⊢
   generalize decide (kd=6)=B6 at P6 K6 ⊢
   cases B1<;>cases B6<;>cases s<;>cases e
   all_goals
    repeat' first|refine Jk ?_|refine Ji ?_|refine Jl ?_|refine Jt ?_|refine Jo ?_|fail
    all_goals rfl
theorem c62 (hl:TrS l) (b:Bool):∀ H,CallOk E0 Tryz.prog 62 [slV b 6 (moC l)] H (.tup [.int .i64 (Zbo l).1,.int .i64 (Zbo l).2]) H:=by
 obtain ⟨hl,hm⟩:=hl
 have hcl:=Y4 l
 have gq:=XN ((moC l).length:Int) 400
 unfold Zbo
 refine Jw tOk fe62.ok rfl ?_
 by_cases h:400<l.length
 · rw [decide_eq_true (by omega)] at gq
   rw [if_pos h]
   repeat' first|refine Ji ?_|refine Jl ?_|refine Jo ?_|fail
   all_goals rfl
 rw [decide_eq_false (by omega)] at gq
 rw [if_neg h]
 repeat' first|refine Ji ?_|refine Jl ?_|refine Jo ?_|fail
 refine Wp.while (fun m2 tm H=>∃ (i:Nat) (base:TM),i+m2=l.length∧(∀ x,x∈l.take i→x.alone=0)∧ZkV [] l=ZkV (l.take i) (l.drop i)∧tm=ovr base [(0,slV b 6 (moC l)),(4,.int .i64 (i:Int))]∧H=⟨[],0,[],0⟩)
  (fun m2 tm H hI=>?_) l.length _ _ ⟨0,_,by omega,by simp,by simp,Zf ⟨rfl,rfl,trivial⟩,rfl⟩
 obtain ⟨i,base,hi,hal,hgo,rfl,rfl⟩:=hI
 rw [hgo]
 by_cases hlt:i<l.length
 · obtain ⟨m, hx⟩ : ∃ m, l[i]? = some m := ⟨l[i], by simp⟩
   have hj:=Va hx
   have hA:=c95 (hm m (List.mem_of_getElem? hx))
   have hlx:=Zr (i:Int) ((moC l).length:Int)
   rw [decide_eq_true (by omega)] at hlx
   have htk:l.take (i+1)=l.take i++ [m]:=by rw [List.take_add_one,hx];rfl
   have hsl:Xb E0 25 (slV b 6 (moC l)) none (some (.int .i64 (i:Int))) none=some (slV false 6 (moC (l.take i))):=by
    rw [← Zjb]
    exact Zk3 (E:=E0) (t:=25) (L:=moC l) (es:=6) rfl rfl rfl rfl b (fun h=>by rw [h] at hcl;simp at hcl;omega) (by omega)
   rw [Zi1 hx,List.length_take,show min i l.length=i by omega]
   have n1:=X8 m.alone 0
   by_cases c1:m.alone=0
   · have hB := c96 (p := l.take i) (by rw [List.length_take]; omega) (form_6 c1) (fun x hx => form_6 (hal x hx)) false
     have hal2:∀ x,x∈l.take (i+1)→x.alone=0:=fun x hx=>by
      rw [htk] at hx
      rcases List.mem_append.1 hx with h|h
      · exact hal x h
      · rw [List.mem_singleton.1 h];exact c1
     rw [decide_eq_true c1] at n1
     rw [if_neg (by omega:¬ m.alone≠0)]
     rw [c1] at hA n1
     have n2:=X8 (Vx (l.take i) m false false) 0
     rw [← htk]
     generalize Vx (l.take i) m false false=B at hB n2 ⊢
     obtain ⟨kd,nu,ro,an,ag,go,tn,te⟩:=m
     simp only [Mo.cells] at hA hB hj
     by_cases c2:B=0
     · rw [decide_eq_true c2] at n2
       rw [if_neg (by omega)]
       repeat' first|refine Jc (hA _) ?_|refine Ji ?_|refine Jl ?_|refine Jx ?_|refine Jo ?_|refine Jd (hB _) ?_|(apply dSl;rfl;rfl;rfl;rfl;rfl;rfl;assumption;exact IsV.any _;rfl)|refine JI ?_|refine Jh ?_|(apply Wp.draw tOk follows;kernel_rfl)|fail
       exact LoopI.go (m2-1) (by omega) ⟨i+1,_,by omega,hal2,rfl,Zf ⟨rfl,Ze (Zd (n:=i+1) (by omega)),trivial⟩,rfl⟩
     · rw [decide_eq_false c2] at n2
       rw [if_pos c2]
       repeat' first|refine Jc (hA _) ?_|refine Ji ?_|refine Jl ?_|refine Jx ?_|refine Jo ?_|refine Jd (hB _) ?_|(apply dSl;rfl;rfl;rfl;rfl;rfl;rfl;assumption;exact IsV.any _;rfl)|refine JI ?_|refine Jh ?_|(apply Wp.draw tOk follows;kernel_rfl)|fail
       all_goals rfl
   · rw [decide_eq_false c1] at n1
     rw [if_pos c1]
     generalize m.alone=e at hA n1 ⊢
     obtain ⟨kd,nu,ro,an,ag,go,tn,te⟩:=m
     simp only [Mo.cells] at hA hj
     repeat' first|refine Jc (hA _) ?_|refine Ji ?_|refine Jl ?_|refine Jx ?_|refine Jo ?_|fail
     all_goals rfl
 · have e : i = l.length := by omega
   subst e
   have hlx:=Zr (l.length:Int) ((moC l).length:Int)
   rw [decide_eq_false (by omega)] at hlx
   rw [List.drop_length]
   repeat' first|refine Ji ?_|refine Jl ?_|refine Jo ?_|fail
   all_goals rfl
theorem c32 (hl:TrS l) (b:Bool):∀ H,CallOk E0 Tryz.prog 32 [slV b 6 (moC l)] H (.int .i64 (Yp l).2) H:=by
 have hc:=c62 hl b
 rw [Zgh]
 generalize Zbo l=f at hc ⊢
 obtain ⟨f1,f2⟩:=f
 refine Jw tOk fe32.ok rfl ?_
 repeat' first|refine Jc (hc _) ?_|refine Jo ?_|fail
 all_goals rfl
