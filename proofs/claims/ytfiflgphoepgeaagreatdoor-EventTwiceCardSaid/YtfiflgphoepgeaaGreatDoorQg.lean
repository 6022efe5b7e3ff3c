/-
  The first wrong moment of a trace: the second text.
-/
import Derived.Test.YtfiflgphoepgeaaGreatDoorQd
set_option maxHeartbeats 0
set_option maxRecDepth 100000
namespace Go.Vm
theorem ZlP (s:Bs):Zbd s=Z8 s:=by
 unfold Zbd Tm.valid
 have h:(Tm.mk 2 s 0 true []).nodes=if Z8 s=true then 0 else 2:=by
  have e:Yw 2 s 0 0=if Z8 s=true then 0 else 2:=by
   unfold Yw
   cases Z8 s<;>simp
  simp only [Tm.nodes,List.length_nil,e,Yd]
  cases Z8 s<;>simp
 rw [h]
 cases Z8 s<;>simp [Tm.size,Zl,Tm.depth,Ya]
def Zo9 (m:Mo):Bool:=
 if m.kind=1 then decide (2≤(m.agents.length:Int))&&(decide ((m.agents.length:Int)≤4)&&(decide ((m.terms.length:Int)=0)&&decide (m.goal=0))) else
 if m.kind=2∨m.kind=3 then decide ((m.agents.length:Int)=0)&&(decide ((m.terms.length:Int)=1)&&(decide (m.goal=0)&&decide (m.role=0))) else
 if m.kind=4∨m.kind=5 then decide ((m.agents.length:Int)=0)&&(decide ((m.terms.length:Int)≤12)&&decide (m.role=0)) else
 if m.kind=6 then decide ((m.agents.length:Int)=1)&&(decide ((m.terms.length:Int)=0)&&(decide (m.goal=0)&&(decide (m.role=0)&&decide (m.num=0)))) else
 if m.kind=7 then decide ((m.agents.length:Int)=0)&&(decide ((m.terms.length:Int)=0)&&(decide (m.goal=0)&&decide (m.role=0))) else false
theorem Zjb (m:Mo):Zo9 m=ZbJ m:=by
 obtain ⟨kd,nu,ro,an,ag,go,tn,te⟩:=m
 unfold Zo9 ZbJ Zal
 simp only
 by_cases h:kd<1∨7<kd
 · rw [if_pos h]
   repeat (rw [if_neg (by omega)])
 rw [if_neg h]
 have ha:(0:Int)≤(ag.length:Int):=by omega
 have ht:(0:Int)≤(te.length:Int):=by omega
 generalize (ag.length:Int)=a at ha ⊢
 generalize (te.length:Int)=t at ht ⊢
 rw [Bool.eq_iff_iff]
 by_cases h1:kd=1
 · simp only [h1, if_true, Bool.and_eq_true, decide_eq_true_eq, Bool.false_or, Bool.true_or, Bool.true_and]
   omega
 by_cases h2:kd=2
 · subst h2
   simp [Bool.and_eq_true,decide_eq_true_eq]
   omega
 by_cases h3:kd=3
 · subst h3
   simp [Bool.and_eq_true,decide_eq_true_eq]
   omega
 by_cases h4:kd=4
 · subst h4
   simp [Bool.and_eq_true,decide_eq_true_eq]
   omega
 by_cases h5:kd=5
 · subst h5
   simp [Bool.and_eq_true,decide_eq_true_eq]
   omega
 by_cases h6:kd=6
 · subst h6
   simp [Bool.and_eq_true,decide_eq_true_eq]
   omega
 have h7:kd=7:=by omega
 subst h7
 simp [Bool.and_eq_true,decide_eq_true_eq]
 omega
theorem ff3 (b0 b1 b2:Bool):(b0=false)∨(b0=true∧b1=false)∨(b0=true∧b1=true∧b2=false)∨(b0=true∧b1=true∧b2=true):=by
 cases b0<;>cases b1<;>cases b2<;>simp
theorem ff4 (b0 b1 b2 b3:Bool):(b0=false)∨(b0=true∧b1=false)∨(b0=true∧b1=true∧b2=false)∨(b0=true∧b1=true∧b2=true∧b3=false)∨(b0=true∧b1=true∧b2=true∧b3=true):=by
 cases b0<;>cases b1<;>cases b2<;>cases b3<;>simp
theorem ZiF {l:List Bs} {i:Nat} {a:Bs} (h:l[i]? = some a):((l.drop i).any fun s=> !Zbd s)=(!Zbd a||(l.drop (i+1)).any fun s=> !Zbd s):=by
 rw [ZC h];rfl
end Go.Vm
namespace Go.Vm.Seat
open Go.Proofs
theorem c78 (m:Mo):∀ H,CallOk E0 Tryz.prog 78 [.agg m.cells] H (.bool (Zo9 m)) H:=by
 obtain ⟨kd,nu,ro,an,ag,go,tn,te⟩:=m
 simp only [Mo.cells,Zo9]
 rw [show (ag.length:Int)=((Y1 ag).length:Int) by rw [Zbn],show (te.length:Int)=((Za te).length:Int) by rw [Zb]]
 have k1:=YB kd 1
 have k2:=YB kd 2
 have k3:=YB kd 3
 have k4:=YB kd 4
 have k5:=YB kd 5
 have k6:=YB kd 6
 have k7:=YB kd 7
 have a1:=UT ((Y1 ag).length:Int) 2
 have a2:=ZnB ((Y1 ag).length:Int) 4
 have a3:=YB ((Y1 ag).length:Int) 0
 have a4:=YB ((Y1 ag).length:Int) 1
 have t1:=YB ((Za te).length:Int) 0
 have t2:=YB ((Za te).length:Int) 1
 have t3:=ZnB ((Za te).length:Int) 12
 have w1:=YB go 0
 have w2:=YB ro 0
 have w3:=YB nu 0
 generalize decide ((2:Int)≤((Y1 ag).length:Int))=A1 at a1 ⊢
 generalize decide (((Y1 ag).length:Int)≤4)=A2 at a2 ⊢
 generalize decide (((Y1 ag).length:Int)=0)=A3 at a3 ⊢
 generalize decide (((Y1 ag).length:Int)=1)=A4 at a4 ⊢
 generalize decide (((Za te).length:Int)=0)=T1 at t1 ⊢
 generalize decide (((Za te).length:Int)=1)=T2 at t2 ⊢
 generalize decide (((Za te).length:Int)≤12)=T3 at t3 ⊢
 generalize decide (go=0)=W1 at w1 ⊢
 generalize decide (ro=0)=W2 at w2 ⊢
 generalize decide (nu=0)=W3 at w3 ⊢
 refine Jw tOk fe78.ok rfl ?_
 by_cases h1:kd=1
 · rw [decide_eq_true h1] at k1
   rw [if_pos h1]
   rcases ff4 A1 A2 T1 W1 with rfl|⟨rfl,rfl⟩|⟨rfl,rfl,rfl⟩|⟨rfl,rfl,rfl,rfl⟩|⟨rfl,rfl,rfl,rfl⟩
   all_goals
    repeat' first|refine Jk ?_|refine Ji ?_|refine Jl ?_|refine Jt ?_|refine Jo ?_|fail
    all_goals rfl
 rw [decide_eq_false h1] at k1
 rw [if_neg h1]
 by_cases h2:kd=2
 · rw [decide_eq_true h2] at k2
   rw [if_pos (.inl h2)]
   rcases ff4 A3 T2 W1 W2 with rfl|⟨rfl,rfl⟩|⟨rfl,rfl,rfl⟩|⟨rfl,rfl,rfl,rfl⟩|⟨rfl,rfl,rfl,rfl⟩
   all_goals
    repeat' first|refine Jk ?_|refine Ji ?_|refine Jl ?_|refine Jt ?_|refine Jo ?_|fail
    all_goals rfl
 rw [decide_eq_false h2] at k2
 by_cases h3:kd=3
 · rw [decide_eq_true h3] at k3
   rw [if_pos (.inr h3)]
   rcases ff4 A3 T2 W1 W2 with rfl|⟨rfl,rfl⟩|⟨rfl,rfl,rfl⟩|⟨rfl,rfl,rfl,rfl⟩|⟨rfl,rfl,rfl,rfl⟩
   all_goals
    repeat' first|refine Jk ?_|refine Ji ?_|refine Jl ?_|refine Jt ?_|refine Jo ?_|fail
    all_goals rfl
 rw [decide_eq_false h3] at k3
 rw [if_neg (by omega)]
 by_cases h4:kd=4
 · rw [decide_eq_true h4] at k4
   rw [if_pos (.inl h4)]
   rcases ff3 A3 T3 W2 with rfl|⟨rfl,rfl⟩|⟨rfl,rfl,rfl⟩|⟨rfl,rfl,rfl⟩
   all_goals
    repeat' first|refine Jk ?_|refine Ji ?_|refine Jl ?_|refine Jt ?_|refine Jo ?_|fail
    all_goals rfl
 rw [decide_eq_false h4] at k4
 by_cases h5:kd=5
 · rw [decide_eq_true h5] at k5
   rw [if_pos (.inr h5)]
   rcases ff3 A3 T3 W2 with rfl|⟨rfl,rfl⟩|⟨rfl,rfl,rfl⟩|⟨rfl,rfl,rfl⟩
   all_goals
    repeat' first|refine Jk ?_|refine Ji ?_|refine Jl ?_|refine Jt ?_|refine Jo ?_|fail
    all_goals rfl
 rw [decide_eq_false h5] at k5
 rw [if_neg (by omega)]
 by_cases h6:kd=6
 · rw [decide_eq_true h6] at k6
   rw [if_pos h6]
   rcases ff5 A4 T1 W1 W2 W3 with rfl|⟨rfl,rfl⟩|⟨rfl,rfl,rfl⟩|⟨rfl,rfl,rfl,rfl⟩|⟨rfl,rfl,rfl,rfl,rfl⟩|⟨rfl,rfl,rfl,rfl,rfl⟩
   all_goals
    repeat' first|refine Jk ?_|refine Ji ?_|refine Jl ?_|refine Jt ?_|refine Jo ?_|fail
    all_goals rfl
 rw [decide_eq_false h6] at k6
 rw [if_neg h6]
 by_cases h7:kd=7
 · rw [decide_eq_true h7] at k7
   rw [if_pos h7]
   rcases ff4 A3 T1 W1 W2 with rfl|⟨rfl,rfl⟩|⟨rfl,rfl,rfl⟩|⟨rfl,rfl,rfl,rfl⟩|⟨rfl,rfl,rfl,rfl⟩
   all_goals
    repeat' first|refine Jk ?_|refine Ji ?_|refine Jl ?_|refine Jt ?_|refine Jo ?_|fail
    all_goals rfl
 rw [decide_eq_false h7] at k7
 rw [if_neg h7]
 repeat' first|refine Ji ?_|refine Jl ?_|refine Jt ?_|refine Jo ?_|fail
 all_goals rfl
theorem c42 {m:Mo} (hm:m.Sm):∀ H,CallOk E0 Tryz.prog 42 [.agg m.cells] H (.int .i64 m.alone) H:=by
 have hF:=c78 m
 rw [Zjb] at hF
 have hags:=hm.ok.ags
 have hal:=hm.al
 have hts:=hm.ts
 have htl:=hm.tl
 unfold Mo.alone
 generalize ZbJ m=F at hF ⊢
 obtain ⟨kd,nu,ro,an,ag,go,tn,te⟩:=m
 simp only [Mo.cells,ZoD] at hF hags hal hts htl ⊢
 have hr4:decide (4≤ro)=decide (3<ro):=by congr 1
 rw [hr4]
 have x1:=Zt nu 0
 have x2:=Xw nu 99
 have x3:=Zt ro 0
 have x4:=Xw ro 3
 have x5:=Zt go 0
 have x6:=Xw go 7
 generalize decide (nu<0)=b1 at x1 ⊢
 generalize decide (99<nu)=b2 at x2 ⊢
 generalize decide (ro<0)=b3 at x3 ⊢
 generalize decide (3<ro)=b4 at x4 ⊢
 generalize decide (go<0)=b5 at x5 ⊢
 generalize decide (7<go)=b6 at x6 ⊢
 refine Jw tOk fe42.ok rfl ?_
 cases F with
 | false =>
   repeat' first|refine Jc (hF _) ?_|refine Jt ?_|refine Jo ?_|fail
   all_goals rfl
 | true =>
   rw [if_neg (by simp)]
   rcases or6 b1 b2 b3 b4 b5 b6 with rfl|⟨rfl,rfl⟩|⟨rfl,rfl,rfl⟩|⟨rfl,rfl,rfl,rfl⟩|⟨rfl,rfl,rfl,rfl,rfl⟩|⟨rfl,rfl,rfl,rfl,rfl,rfl⟩|⟨rfl,rfl,rfl,rfl,rfl,rfl⟩
   iterate 6
    repeat' first|refine Jk ?_|refine Jc (hF _) ?_|refine Ji ?_|refine Jt ?_|refine Jo ?_|fail
    · rfl
   rw [if_neg (by simp)]
   have hcl:=Zb te
   have hsl:=Zbn ag
   skip
   refine Wp.while (fun m2 tm H=>∃ (i:Nat) (base:TM),i+m2=ag.length∧(ag.any fun s=> !Zbd s)=((ag.drop i).any fun s=> !Zbd s)∧tm=ovr base [(1,.ptr 0 6 0 0),(3,.int .i64 (i:Int))]∧H=⟨[.cells 6 [[.int .i64 kd,.int .i64 nu,.int .i64 ro,slV an 1 (Y1 ag),.int .i64 go,slV tn 4 (Za te)]]],0,[],0⟩)
    (fun m2 tm H hI=>?_) ag.length _ _ ⟨0,_,by omega,by simp,Zf ⟨rfl,rfl,trivial⟩,rfl⟩
   obtain ⟨i,base,hi,hgo,rfl,rfl⟩:=hI
   rw [hgo]
   by_cases hlt:i<ag.length
   · obtain ⟨a, ha⟩ : ∃ a, ag[i]? = some a := ⟨ag[i], by simp⟩
     have hj:=UZ ha
     have hI:=c79 a (hags a (List.mem_of_getElem? ha))
     rw [← ZlP] at hI
     have hlx:=Zt (i:Int) ((Y1 ag).length:Int)
     rw [decide_eq_true (by omega)] at hlx
     rw [ZiF ha]
     generalize Zbd a=B at hI ⊢
     cases B with
     | true =>
       rw [Bool.not_true,Bool.false_or]
       repeat' first|refine Jc (hI _) ?_|refine Ji ?_|refine Jl ?_|refine Jx ?_|refine Jt ?_|refine Jo ?_|fail
       exact LoopI.go (m2-1) (by omega) ⟨i+1,_,by omega,rfl,Zf ⟨rfl,Zd (Zc (n:=i+1) (by omega)),trivial⟩,rfl⟩
     | false =>
       rw [Bool.not_false,Bool.true_or,if_pos rfl]
       repeat' first|refine Jc (hI _) ?_|refine Ji ?_|refine Jl ?_|refine Jx ?_|refine Jt ?_|refine Jo ?_|fail
       all_goals rfl
   · have e : i = ag.length := by omega
     subst e
     have hlx:=Zt (ag.length:Int) ((Y1 ag).length:Int)
     rw [decide_eq_false (by omega)] at hlx
     rw [List.drop_length,List.any_nil,if_neg (by simp)]
     clear hgo
     repeat' first|refine Ji ?_|refine Jl ?_|refine Jo ?_|fail
     refine Wp.while (fun m2 tm H=>∃ (i:Nat) (base:TM),i+m2=te.length∧Zlm te=Zlm (te.drop i)∧tm=ovr base [(1,.ptr 0 6 0 0),(4,.int .i64 (i:Int))]∧H=⟨[.cells 6 [[.int .i64 kd,.int .i64 nu,.int .i64 ro,slV an 1 (Y1 ag),.int .i64 go,slV tn 4 (Za te)]]],0,[],0⟩)
      (fun m2 tm H hI=>?_) te.length _ _ ⟨0,_,by omega,by simp,Zf ⟨rfl,rfl,trivial⟩,rfl⟩
     obtain ⟨i,base,hi,hgo,rfl,rfl⟩:=hI
     rw [hgo]
     by_cases hlt:i<te.length
     · obtain ⟨t, ht⟩ : ∃ t, te[i]? = some t := ⟨te[i], by simp⟩
       have hR:=hts t (List.mem_of_getElem? ht)
       have hR:=c80 hR.1 hR.2
       have hlx:=Zt (i:Int) ((Za te).length:Int)
       rw [decide_eq_true (by omega)] at hlx
       rw [ZiE ht]
       have n1:=Zie t.rgt 0
       generalize t.rgt=e at hR n1 ⊢
       obtain ⟨k',nm',s',b',kz'⟩:=t
       have hj:=Zk ht
       simp only [Tm.cells] at hR
       by_cases c1:e=0
       · rw [decide_eq_true c1] at n1
         rw [if_neg (by omega)]
         repeat' first|refine Jc (hR _) ?_|refine Ji ?_|refine Jl ?_|refine Jx ?_|refine Jo ?_|fail
         exact LoopI.go (m2-1) (by omega) ⟨i+1,_,by omega,rfl,Zf ⟨rfl,Zd (Zc (n:=i+1) (by omega)),trivial⟩,rfl⟩
       · rw [decide_eq_false c1] at n1
         rw [if_pos c1]
         repeat' first|refine Jc (hR _) ?_|refine Ji ?_|refine Jl ?_|refine Jx ?_|refine Jo ?_|fail
         all_goals rfl
     · have e : i = te.length := by omega
       subst e
       have hlx:=Zt (te.length:Int) ((Za te).length:Int)
       rw [decide_eq_false (by omega)] at hlx
       rw [List.drop_length]
       repeat' first|refine Ji ?_|refine Jl ?_|refine Jo ?_|fail
       all_goals rfl
end Go.Vm.Seat
namespace Go.Vm
variable {m:Mo}
def Mo.hd (m:Mo):Bs:=m.agents.headD []
structure FSt where
 a:List (Int×Bool)
 b:List (Int×Bool)
 r:List (Bs×Bool)
def FSt.bhd (S:FSt) (m:Mo):Int:=if m.kind=6 then (if lkB m.hd S.r=true then 5 else 0) else if m.kind=1 then (if lkB m.num S.a=true then 5 else 0) else if lkB m.num S.a=false∨lkB m.num S.b=true then 9 else 0
def FSt.err (S:FSt) (m:Mo):Int:=if m.alone≠0 then m.alone else S.bhd m
def FSt.nxt (S:FSt) (m:Mo):FSt:=if m.kind=6 then ⟨S.a,S.b,upB m.hd true S.r⟩ else if m.kind=1 then ⟨upB m.num true S.a,S.b,S.r⟩ else ⟨S.a,upB m.num (decide (m.kind=7)) S.b,S.r⟩
def Zo7:FSt→List Mo→Nat→Int×Int
 |_,[],_=>(0,0)
 |S,m::r,i=>if S.err m≠0 then ((i:Int),S.err m) else Zo7 (S.nxt m) r (i+1)
def ZQ (l:List Mo):Int×Int:=if 400<l.length then (-1,3) else Zo7 ⟨[],[],[]⟩ l 0
theorem ZoP {S:FSt} (h:m.alone≠0):S.err m=m.alone:=if_pos h
theorem Zly (h:m.alone=0) (hk:m.kind=6):∃ a,m.agents= [a]:=by
 unfold Mo.alone at h
 split at h
 · cases h
 rename_i h1
 have h1:ZbJ m=true:=by simpa using h1
 unfold ZbJ Zal at h1
 rw [if_neg (by omega),if_neg (by omega),if_neg (by omega),if_neg (by omega),if_neg (by omega),if_neg (by omega),if_pos hk] at h1
 simp only [Bool.and_eq_true,decide_eq_true_eq] at h1
 match hm:m.agents with
 | []=>rw [hm] at h1;simp at h1
 | [a]=>exact ⟨a,rfl⟩
 |a::b::r=>rw [hm] at h1;simp at h1;omega
end Go.Vm
namespace Go.Vm.Seat
open Go.Proofs
def TrS (l:List Mo):Prop:=l.length≤1000∧∀ m,m∈l→m.Sm
end Go.Vm.Seat
namespace Go.Vm
variable {S:FSt} {p:List Mo}
def Wy:List Mo→Mo→Bool→Bool→Int
 | [],m,s,e=>if (decide (m.kind=1)&&s)=true then 5 else if (!decide (m.kind=1)&&(!decide (m.kind=6)&&(!s||e)))=true then 9 else 0
 |x::r,m,s,e=>if m.kind=6∧x.kind=6∧x.hd=m.hd then 5 else if x.num=m.num then Wy r m (s||decide (x.kind=1)) (e||decide (x.kind=7)) else Wy r m s e
def Zgl:List Mo→List Mo→Int×Int
 |_,[]=>(-1,0)
 |p,m::r=>if m.alone≠0 then ((p.length:Int),m.alone) else if Wy p m false false≠0 then ((p.length:Int),Wy p m false false) else Zgl (p++ [m]) r
def QY (l:List Mo):Int×Int:=if 400<l.length then (-1,3) else Zgl [] l
def Zb2 (p:List Mo) (k n:Int):Bool:=p.any fun x=>decide (x.num=n)&&decide (x.kind=k)
def ZdN (p:List Mo) (a:Bs):Bool:=p.any fun x=>decide (x.kind=6)&&decide (x.hd=a)
theorem Zbv (m:Mo):∀ (p:List Mo) (s e:Bool),Wy p m s e=if m.kind=6 then (if ZdN p m.hd=true then 5 else 0) else if m.kind=1 then (if (s||Zb2 p 1 m.num)=true then 5 else 0) else if (!(s||Zb2 p 1 m.num)||(e||Zb2 p 7 m.num))=true then 9 else 0
 | [], s, e => by
   have a1:¬ ZdN [] m.hd=true:=by simp [ZdN]
   have a2:∀ k,Zb2 [] k m.num=false:=fun _=>rfl
   rw [if_neg a1,a2,a2,Bool.or_false,Bool.or_false]
   simp only [Wy]
   by_cases h6:m.kind=6
   · rw [if_neg (by simp [h6]),if_neg (by simp [h6]),if_pos h6]
   rw [if_neg h6]
   by_cases h1:m.kind=1
   · rw [if_pos h1]
     cases s
     · rw [if_neg (by simp),if_neg (by simp [h1])];rfl
     · rw [if_pos (by simp [h1])];rfl
   rw [if_neg h1,if_neg (by simp [h1])]
   simp only [h1,h6,decide_false,Bool.not_false,Bool.true_and]
 | x :: r, s, e => by
   simp only [Wy]
   have ih:=Zbv m r
   by_cases h6:m.kind=6
   · rw [if_pos h6]
     by_cases hx:x.kind=6∧x.hd=m.hd
     · rw [if_pos ⟨h6, hx⟩, if_pos]
       simp [ZdN,hx.1,hx.2]
     · rw [if_neg fun h => hx h.2]
       have e1:ZdN (x::r) m.hd=ZdN r m.hd:=by
        simp only [ZdN,List.any_cons]
        rw [show (decide (x.kind=6)&&decide (x.hd=m.hd))=false by
         cases h:(decide (x.kind=6)&&decide (x.hd=m.hd)) with
         | false=>rfl
         | true=>rw [Bool.and_eq_true,decide_eq_true_eq,decide_eq_true_eq] at h;exact absurd h hx,Bool.false_or]
       rw [e1,ih,ih,if_pos h6,if_pos h6,ite_self]
   · rw [if_neg fun h => h6 h.1, ih, ih, if_neg h6, if_neg h6, if_neg h6]
     have e1:∀ k,Zb2 (x::r) k m.num=((decide (x.num=m.num)&&decide (x.kind=k))||Zb2 r k m.num):=fun k=>rfl
     rw [e1,e1]
     by_cases hn:x.num=m.num
     · rw [if_pos hn]
       simp only [hn,decide_true,Bool.true_and,Bool.or_assoc]
     · rw [if_neg hn]
       simp only [hn,decide_false,Bool.false_and,Bool.false_or]
structure Kn (S:FSt) (p:List Mo):Prop where
 a:∀ n,lkB n S.a=Zb2 p 1 n
 b:∀ n,lkB n S.b=Zb2 p 7 n
 r:∀ s,lkB s S.r=ZdN p s
theorem Zlc (h:Kn S p) (m:Mo):S.bhd m=Wy p m false false:=by
 rw [Zbv]
 unfold FSt.bhd
 rw [h.a,h.b,h.r,Bool.false_or,Bool.false_or]
 congr 2
 cases Zb2 p 1 m.num<;>cases Zb2 p 7 m.num<;>simp
theorem X4 (p:List Mo) (m:Mo) (k n:Int):Zb2 (p++ [m]) k n=(Zb2 p k n||(decide (m.num=n)&&decide (m.kind=k))):=by simp [Zb2]
theorem Zc9 (p:List Mo) (m:Mo) (a:Bs):ZdN (p++ [m]) a=(ZdN p a||(decide (m.kind=6)&&decide (m.hd=a))):=by simp [ZdN]
theorem Zo6 (h:Kn S p) {m:Mo} (hb:S.bhd m=0):Kn (S.nxt m) (p++ [m]):=by
 obtain ⟨h1,h2,h3⟩:=h
 unfold FSt.bhd at hb
 unfold FSt.nxt
 by_cases h6:m.kind=6
 · rw [if_pos h6]
   refine ⟨fun n=>?_,fun n=>?_,fun s=>?_⟩
   · rw [X4,h1,h6];simp
   · rw [X4,h2,h6];simp
   · rw [Zc9]
     show lkB s (upB m.hd true S.r)=_
     rw [ZkB,h3,h6]
     by_cases e:s=m.hd
     · rw [if_pos e,e];simp
     · rw [if_neg e]
       have:¬ m.hd=s:=fun h=>e h.symm
       simp [this]
 rw [if_neg h6] at hb ⊢
 have hH:∀ s,lkB s S.r=ZdN (p++ [m]) s:=fun s=>by rw [Zc9,h3];simp [h6]
 by_cases e1:m.kind=1
 · rw [if_pos e1]
   refine ⟨fun n=>?_,fun n=>?_,hH⟩
   · rw [X4]
     show lkB n (upB m.num true S.a)=_
     rw [ZkB,h1,e1]
     by_cases e:n=m.num
     · rw [if_pos e,e];simp
     · rw [if_neg e]
       have:¬ m.num=n:=fun h=>e h.symm
       simp [this]
   · rw [X4,h2,e1];simp
 rw [if_neg e1] at hb ⊢
 refine ⟨fun n=>?_,fun n=>?_,hH⟩
 · rw [X4,h1];simp [e1]
 · rw [X4]
   show lkB n (upB m.num (decide (m.kind=7)) S.b)=_
   rw [ZkB,h2]
   by_cases e:n=m.num
   · rw [if_pos e, e]
     have hb2:Zb2 p 7 m.num=false:=by
      rw [h1,h2] at hb
      split at hb
      · cases hb
      · rename_i hx
        cases hy:Zb2 p 7 m.num with
        | false=>rfl
        | true=>exact absurd (.inr hy) hx
     rw [hb2];simp
   · rw [if_neg e]
     have:¬ m.num=n:=fun h=>e h.symm
     simp [this]
theorem Zfs:∀ (l p:List Mo) (S:FSt),Kn S p→(Zo7 S l p.length).2=(Zgl p l).2
 | [],p,S,_=>rfl
 | m :: r, p, S, h => by
   simp only [Zo7,Zgl]
   by_cases c:m.alone≠0
   · rw [ZoP c,if_pos c,if_pos c]
   have e:S.err m=S.bhd m:=if_neg c
   rw [e,Zlc h,if_neg c]
   by_cases c2:Wy p m false false≠0
   · rw [if_pos c2,if_pos c2]
   rw [if_neg c2,if_neg c2]
   have h2:=Zo6 h (m:=m) (by rw [Zlc h];exact Classical.not_not.1 c2)
   have:=Zfs r (p++ [m]) _ h2
   rwa [List.length_append] at this
theorem ZaU (l:List Mo):(ZQ l).2=(QY l).2:=by
 unfold ZQ QY
 split
 · rfl
 · exact Zfs l [] _ ⟨fun _=>rfl,fun _=>rfl,fun _=>rfl⟩
