/-
  Moments alone: the program's text.
-/
import Derived.Test.YtfiflgphoepgeaaGreatDoorOz
import Derived.Test.YtfiflgphoepgeaaGreatDoorProg
set_option maxHeartbeats 0
set_option maxRecDepth 100000
namespace Go.Vm
def Zp9 (h:Tm→Tm) (f u:Int) (l:List Mo):List Mo:=if f<0∨9<f∨u<0∨9<u then l else l.map (·.rn f u h)
end Go.Vm
namespace Go.Vm.Seat
open Go.Proofs
theorem c8 {l:List Mo} (hl:TrOk l) (f u:Int) (b:Bool):∀ H,CallOk E0 Tryz.prog 8 [slV b 6 (moC l),.int .i64 f,.int .i64 u] H (slV b 6 (moC (Zp9 (rnP f u) f u l))) H:=by
 unfold Zp9
 by_cases h:f<0∨9<f∨u<0∨9<u
 · rw [if_pos h]
   exact ZrZ h l b
 · rw [if_neg h]
   have hf:0≤f∧f≤9:=by omega
   have hu:0≤u∧u≤9:=by omega
   by_cases hne:l= []
   · subst hne
     exact Zso hf hu b
   · obtain ⟨cs, bx, h1, h2, h3, h4⟩ := Zr9 hf hu hl hne b
     have hne2:l.map (·.rn f u (rnP f u))≠ []:=fun e=>hne (by simpa using e)
     rw [ZiK hne2 b]
     rw [← h2] at h1
     intro H
     refine ZdP h1 (by simp only [ZM,YP];rfl) h3 (by rw [XE,List.length_map,h2]) (fun i q1 q2=>?_) H
     obtain ⟨m,hm⟩:∃ m,l[i]? = some m:=⟨l[i]'(by omega),by simp⟩
     have:=(h4 i m cs[i] hm (by simp)).frz
     rw [this]
     congr 1
     have hg:(moC (l.map (·.rn f u (rnP f u))))[i]? = some ((m.rn f u (rnP f u)).cells):=WH (by rw [List.getElem?_map,hm];rfl)
     rw [List.getElem?_eq_getElem q2] at hg
     exact (Option.some.inj hg).symm
end Go.Vm.Seat
namespace Go.Vm
variable {t:Tm}
mutual
theorem Zig:∀ (t:Tm) (n:Int),0≤t.budget n→t.nb=true
 | .mk k nm s b kz, n, h => by
   rw [Tm.budget] at h
   split at h
   · exact absurd h (by decide)
   · rename_i h1
     rw [Tm.nb,Zau kz (n-1) h,decide_eq_true (by omega)]
     rfl
theorem Zau:∀ (l:List Tm) (n:Int),0≤WC l n→nbL l=true
 | [],n,_=>rfl
 | t :: r, n, h => by
   rw [WC] at h
   split at h
   · exact absurd h (by decide)
   · rename_i h1
     rw [nbL,Zig t n (by omega),Zau r _ h]
     rfl
end
theorem ZqX {c:Bool} (ht:t.Ok) (h:(t.nf c).2=0):(t.nf c).1.Ok∧(t.nf c).1.size≤400:=by
 revert h
 unfold Tm.nf
 split
 · rename_i h1;intro h;exact absurd h h1
 rename_i h1
 split
 · rename_i h2;intro h;exact absurd h h2
 rename_i h2
 split
 · rename_i h3;intro h;exact absurd h h3
 split
 · rename_i h4;intro h;exact absurd h h4
 rename_i h4
 intro _
 have hs:=Yu (Classical.not_not.1 h1)
 exact ⟨cls_ok.nrm t (Classical.not_not.1 h2) (by omega) ht,Yu (Classical.not_not.1 h4)⟩
theorem Zqt {g:Bs→Bs} (hg:∀ s:Bs,s.length≤40→(g s).length≤41) (c:Bool) (ht:t.Ok∧t.nb=true∧t.size≤1000):(t.rn g c).Ok∧(t.rn g c).size≤1000:=by
 have hx:=ZlV hg ht.1 ht.2.1
 have hs:=Zbk g t
 unfold Tm.rn
 split
 · rename_i h
   have:=ZqX hx h.2
   exact ⟨this.1,by omega⟩
 · exact ⟨hx,by omega⟩
end Go.Vm
namespace Go.Vm.Seat
open Go.Proofs
theorem Zok {l m:List Tm} (hl:∀ t,t∈l→t.Ok∧t.size≤200000) (hm:∀ t,t∈m→t.Ok∧t.size≤200000) (hll:l.length≤1000000) (he:l.map Tm.cl=m.map Tm.cl) (b c:Bool):∀ H,CallOk E0 Tryz.prog 23 [slV b 4 (Za l),slV c 4 (Za m)] H (.bool true) H:=by
 have hlm:l.length=m.length:=by simpa using congrArg List.length he
 have g1':=Zb l
 have g2':=Zb m
 have hn:=Ux ((Za l).length:Int) ((Za m).length:Int)
 rw [decide_eq_true (by omega),Bool.not_true] at hn
 refine Jw tOk fe23.ok rfl ?_
 repeat' first|refine Ji ?_|refine JJ ?_|refine Jl ?_|refine Jx ?_|refine Jt ?_|refine Jb ?_ ?_|refine Jo ?_|refine JD ?_|refine JK ?_|(apply dLn;rfl;rfl;rfl;rfl;rfl)|refine JI ?_|(apply dT (ty:=4);rfl;rfl;rfl;rfl)|(apply dF (ty:=4);rfl;rfl;rfl;rfl)|(apply dB (ty:=4);rfl;rfl;rfl;rfl)|refine Jh ?_|(apply Wp.draw tOk follows;kernel_rfl)|intro hb
 refine Wp.while (fun k tm H=>∃ (i:Nat) (base:TM),i+k=l.length∧tm=ovr base [(0,slV b 4 (Za l)),(1,slV c 4 (Za m)),(5,.int .i64 (i:Int))]∧H=⟨[],0,[],0⟩)
  (fun k tm H hI=>?_) l.length _ _ ⟨0,_,by omega,Zf ⟨rfl,rfl,rfl,trivial⟩,rfl⟩
 obtain ⟨i,base,hi,rfl,rfl⟩:=hI
 by_cases hlt:i<l.length
 · obtain ⟨t', ht'⟩ : ∃ t', l[i]? = some t' := ⟨l[i], by simp⟩
   obtain ⟨u',hu'⟩:∃ u',m[i]? = some u':=⟨m[i]'(by omega),by simp⟩
   have hc:=Zd3 (hl t' (List.mem_of_getElem? ht')) (hm u' (List.mem_of_getElem? hu'))
   have hcl:t'.cl=u'.cl:=by
    have:=congrArg (·[i]?) he
    simpa [ht',hu'] using this
   rw [decide_eq_true (XF.2 hcl)] at hc
   have hlx:=Zt (i:Int) ((Za l).length:Int)
   rw [decide_eq_true (by omega)] at hlx
   clear hcl
   obtain ⟨k',nm',s',b',kz'⟩:=t'
   obtain ⟨k2,nm2,s2,b2,kz2⟩:=u'
   have hj1:=Zk ht'
   have hj2:=Zk hu'
   simp only [Tm.cells] at hc
   repeat' first|refine Jc (hc _) ?_|refine Ji ?_|refine JJ ?_|refine Jl ?_|refine Jx ?_|refine Jt ?_|refine Jb ?_ ?_|refine Jo ?_|refine Jd (hc _) ?_|refine JD ?_|refine JK ?_|(apply dLn;rfl;rfl;rfl;rfl;rfl)|refine JI ?_|(apply dT (ty:=4);rfl;rfl;rfl;rfl)|(apply dF (ty:=4);rfl;rfl;rfl;rfl)|(apply dB (ty:=4);rfl;rfl;rfl;rfl)|refine Jh ?_|(apply Wp.draw tOk follows;kernel_rfl)|intro hb
   exact LoopI.go (k-1) (by omega) ⟨i+1,_,by omega,Zf ⟨rfl,rfl,Zd (Zc (n:=i+1) (by omega)),trivial⟩,rfl⟩
 · have e : i = l.length := by omega
   subst e
   have hlx:=Zt (l.length:Int) ((Za l).length:Int)
   rw [decide_eq_false (by omega)] at hlx
   repeat' first|refine Ji ?_|refine JJ ?_|refine Jl ?_|refine Jx ?_|refine Jt ?_|refine Jb ?_ ?_|refine Jo ?_|refine JD ?_|refine JK ?_|(apply dLn;rfl;rfl;rfl;rfl;rfl)|refine JI ?_|(apply dT (ty:=4);rfl;rfl;rfl;rfl)|(apply dF (ty:=4);rfl;rfl;rfl;rfl)|(apply dB (ty:=4);rfl;rfl;rfl;rfl)|refine Jh ?_|(apply Wp.draw tOk follows;kernel_rfl)|intro hb
   all_goals rfl
structure MoP (x y:Mo):Prop where
 s:x.same y
 tx:∀ t,t∈x.terms→t.Ok∧t.size≤200000
 ty:∀ t,t∈y.terms→t.Ok∧t.size≤200000
 tl:x.terms.length≤1000
 al:x.agents.length≤1000
theorem ZnA {A B:List Mo} (hA:A.length≤420) (hlm:A.length=B.length) (hp:∀ (i:Nat) x y,A[i]? = some x→B[i]? = some y→MoP x y) (b c:Bool):∀ H,CallOk E0 Tryz.prog 11 [slV b 6 (moC A),slV c 6 (moC B)] H (.bool true) H:=by
 have g1':=XE A
 have g2':=XE B
 have hn:=Ux ((moC A).length:Int) ((moC B).length:Int)
 rw [decide_eq_true (by omega),Bool.not_true] at hn
 refine Jw tOk fe11.ok rfl ?_
 repeat' first|refine Jk ?_|refine Ji ?_|refine JJ ?_|refine Jl ?_|refine Jx ?_|refine Jt ?_|refine Jb ?_ ?_|refine Jo ?_|(apply dK;rfl;rfl;rfl)|refine JD ?_|refine JK ?_|(apply dLn;rfl;rfl;rfl;rfl;rfl)|refine JI ?_|(apply dT (ty:=4);rfl;rfl;rfl;rfl)|(apply dF (ty:=4);rfl;rfl;rfl;rfl)|(apply dB (ty:=4);rfl;rfl;rfl;rfl)|refine Jh ?_|(apply Wp.draw tOk follows;kernel_rfl)|intro hb
 refine Wp.while (fun m tm H => ∃ (i : Nat) (base : TM), i + m = A.length ∧
   tm=ovr base [(0,slV b 6 (moC A)),(1,slV c 6 (moC B)),(5,.int .i64 (i:Int))]∧H=hNil)
  (fun m tm H hI=>Wp.drop ?_) A.length _ _ ⟨0,_,by omega,Zf ⟨rfl,rfl,rfl,trivial⟩,rfl⟩
 obtain ⟨i,base,hi,rfl,rfl⟩:=hI
 by_cases hlt:i<A.length
 · obtain ⟨x, hx⟩ : ∃ x, A[i]? = some x := ⟨A[i], by simp⟩
   obtain ⟨y,hy⟩:∃ y,B[i]? = some y:=⟨B[i]'(by omega),by simp⟩
   obtain ⟨hs,htx,hty,htl,hal⟩:=hp i x y hx hy
   obtain ⟨p1,p2,p3,p4,p5,p6⟩:=hs
   have hc:=Zok htx hty (by omega) p6 x.tn y.tn
   have hj:=WH hx
   have hj2:=WH hy
   have hlx:=Zt (i:Int) ((moC A).length:Int)
   rw [decide_eq_true (by omega)] at hlx
   obtain ⟨kd,nu,ro,an,ag,go,tn,te⟩:=x
   obtain ⟨kd2,nu2,ro2,an2,ag2,go2,tn2,te2⟩:=y
   simp only at p1 p2 p3 p4 p5
   subst p1 p2 p3 p4 p5
   simp only [Mo.cells] at hj hj2 hc hal
   clear p6 htx hty hp
   have r1:=Ux kd kd
   have r2:=Ux nu nu
   have r3:=Ux ro ro
   have r4:=Ux go go
   have r5:=Ux ((Y1 ag).length:Int) ((Y1 ag).length:Int)
   rw [decide_eq_true rfl,Bool.not_true] at r1 r2 r3 r4 r5
   have hsl:=Zbn ag
   repeat' first|refine Jk ?_|refine Jc (hc _) ?_|refine Ji ?_|refine JJ ?_|refine Jl ?_|refine Jx ?_|refine Jt ?_|refine Jb ?_ ?_|refine Jo ?_|(apply dK;rfl;rfl;rfl)|refine Jd (hc _) ?_|refine JD ?_|refine JK ?_|(apply dLn;rfl;rfl;rfl;rfl;rfl)|refine JI ?_|(apply dT (ty:=4);rfl;rfl;rfl;rfl)|(apply dF (ty:=4);rfl;rfl;rfl;rfl)|(apply dB (ty:=4);rfl;rfl;rfl;rfl)|refine Jh ?_|(apply Wp.draw tOk follows;kernel_rfl)|intro hb
   refine Wp.while (fun m2 tm H => ∃ (k : Nat) (base : TM), k + m2 = ag.length ∧
         tm=ovr base [(0,slV b 6 (moC A)),(1,slV c 6 (moC B)),(5,.int .i64 (i:Int)),(6,.ptr 0 6 0 0),(7,.ptr 1 6 0 0),(8,.int .i64 (k:Int))]∧
         H=⟨[.cells 6 [[.int .i64 kd,.int .i64 nu,.int .i64 ro,slV an 1 (Y1 ag),.int .i64 go,slV tn 4 (Za te)]],.cells 6 [[.int .i64 kd,.int .i64 nu,.int .i64 ro,slV an2 1 (Y1 ag),.int .i64 go,slV tn2 4 (Za te2)]]],0,[],0⟩)
     (fun m2 tm H hI=>?_) ag.length _ _ ⟨0,_,by omega,Zf ⟨rfl,rfl,rfl,rfl,rfl,rfl,trivial⟩,rfl⟩
   obtain ⟨k,base,hk2,rfl,rfl⟩:=hI
   by_cases hlk:k<ag.length
   · obtain ⟨z, hz⟩ : ∃ z, ag[k]? = some z := ⟨ag[k], by simp⟩
     have hjz:=UZ hz
     have hly:=Zt (k:Int) ((Y1 ag).length:Int)
     rw [decide_eq_true (by omega)] at hly
     have r6:=Znw z z
     rw [decide_eq_true rfl,Bool.not_true] at r6
     repeat' first|refine Jk ?_|refine Ji ?_|refine JJ ?_|refine Jl ?_|refine Jx ?_|refine Jt ?_|refine Jb ?_ ?_|refine Jo ?_|(apply dK;rfl;rfl;rfl)|refine JD ?_|refine JK ?_|(apply dLn;rfl;rfl;rfl;rfl;rfl)|refine JI ?_|(apply dT (ty:=4);rfl;rfl;rfl;rfl)|(apply dF (ty:=4);rfl;rfl;rfl;rfl)|(apply dB (ty:=4);rfl;rfl;rfl;rfl)|refine Jh ?_|(apply Wp.draw tOk follows;kernel_rfl)|intro hb
     exact LoopI.go (m2-1) (by omega) ⟨k+1,_,by omega,Zf ⟨rfl,rfl,rfl,rfl,rfl,Zd (Zc (n:=k+1) (by omega)),trivial⟩,rfl⟩
   · have e : k = ag.length := by omega
     subst e
     have hly:=Zt (ag.length:Int) ((Y1 ag).length:Int)
     rw [decide_eq_false (by omega)] at hly
     repeat' first|refine Jk ?_|refine Ji ?_|refine JJ ?_|refine Jl ?_|refine Jx ?_|refine Jt ?_|refine Jb ?_ ?_|refine Jo ?_|(apply dK;rfl;rfl;rfl)|refine JD ?_|refine JK ?_|(apply dLn;rfl;rfl;rfl;rfl;rfl)|refine JI ?_|(apply dT (ty:=4);rfl;rfl;rfl;rfl)|(apply dF (ty:=4);rfl;rfl;rfl;rfl)|(apply dB (ty:=4);rfl;rfl;rfl;rfl)|refine Jh ?_|(apply Wp.draw tOk follows;kernel_rfl)|intro hb
     refine DropQ.go [(0,slV b 6 (moC A)),(1,slV c 6 (moC B)),(5,.int .i64 ((i+1:Nat):Int))] ?_ ?_ rfl rfl ?_
     · exact ⟨rfl,rfl,Zd (Zc (n:=i+1) (by omega)),trivial⟩
     · simp [Zg,under]
     · exact LoopI.go (m-1) (by omega) ⟨i+1,_,by omega,rfl,rfl⟩
 · have e : i = A.length := by omega
   subst e
   have hlx:=Zt (A.length:Int) ((moC A).length:Int)
   rw [decide_eq_false (by omega)] at hlx
   repeat' first|refine Jk ?_|refine Ji ?_|refine JJ ?_|refine Jl ?_|refine Jx ?_|refine Jt ?_|refine Jb ?_ ?_|refine Jo ?_|(apply dK;rfl;rfl;rfl)|refine JD ?_|refine JK ?_|(apply dLn;rfl;rfl;rfl;rfl;rfl)|refine JI ?_|(apply dT (ty:=4);rfl;rfl;rfl;rfl)|(apply dF (ty:=4);rfl;rfl;rfl;rfl)|(apply dB (ty:=4);rfl;rfl;rfl;rfl)|refine Jh ?_|(apply Wp.draw tOk follows;kernel_rfl)|intro hb
   all_goals rfl
end Go.Vm.Seat
namespace Go.Vm
def Zbd (s:Bs):Bool:=decide ((Tm.mk 2 s 0 true []).valid=0)
end Go.Vm
namespace Go.Vm.Seat
open Go.Proofs
theorem Zmi (s:Bs) (hs:s.length≤maxLen):(Tm.mk 2 s 0 true []).Ok:= .mk (by decide) (by decide) hs (by decide) fun t ht=>by simp at ht
end Go.Vm.Seat
namespace Go.Vm
def Zal (num role goal:Bool) (la ma lt mt nu ro go a t:Int):Bool:=(num||decide (nu=0))&&((role||decide (ro=0))&&((goal||decide (go=0))&&(decide (la≤a)&&(decide (a≤ma)&&(decide (lt≤t)&&decide (t≤mt))))))
def ZbJ (m:Mo):Bool:=if m.kind<1∨7<m.kind then false else
 if m.kind=1 then Zal true true false 2 4 0 0 m.num m.role m.goal m.agents.length m.terms.length else
 if m.kind=2 then Zal true false false 0 0 1 1 m.num m.role m.goal m.agents.length m.terms.length else
 if m.kind=3 then Zal true false false 0 0 1 1 m.num m.role m.goal m.agents.length m.terms.length else
 if m.kind=4 then Zal true false true 0 0 0 12 m.num m.role m.goal m.agents.length m.terms.length else
 if m.kind=5 then Zal true false true 0 0 0 12 m.num m.role m.goal m.agents.length m.terms.length else
 if m.kind=6 then Zal false false false 1 1 0 0 m.num m.role m.goal m.agents.length m.terms.length else
 Zal true false false 0 0 0 0 m.num m.role m.goal m.agents.length m.terms.length
theorem ff5 (b0 b1 b2 b3 b4:Bool):(b0=false)∨(b0=true∧b1=false)∨(b0=true∧b1=true∧b2=false)∨(b0=true∧b1=true∧b2=true∧b3=false)∨(b0=true∧b1=true∧b2=true∧b3=true∧b4=false)∨(b0=true∧b1=true∧b2=true∧b3=true∧b4=true):=by
 cases b0<;>cases b1<;>cases b2<;>cases b3<;>cases b4<;>simp
end Go.Vm
namespace Go.Vm.Seat
open Go.Proofs
theorem ZnB (a b:Int):Y2 E0 .leq 3 (.int .i64 a) (.int .i64 b)=some (.bool (decide (a≤b))):=rfl
end Go.Vm.Seat
namespace Go.Proofs
open Go.Shelf
end Go.Proofs
namespace Go.Vm.Seat
open Go.Proofs
end Go.Vm.Seat
namespace Go.Vm
variable {t:Tm}
def dsN (nm:Bs):Bool:= !decide ((Yo nm).kind=3)
mutual
def Tm.dsR:Tm→Bool
 | .mk k nm _ _ kz=>(if k=3 then dsN nm else true)&&Zpc kz
def Zpc:List Tm→Bool
 | []=>true
 |t::r=>t.dsR&&Zpc r
end
def ds1 (x:Tm):Bool:=match x with| .mk k nm _ _ _=> !(decide (k=3)&&decide ((Yo nm).kind=3))
mutual
theorem Zng:∀ t:Tm,t.dsR=t.all.all ds1
 | .mk k nm s b kz => by
   rw [Tm.dsR,Tm.all,List.all_cons,ZhL kz]
   congr 1
   show _= !(decide (k=3)&&decide ((Yo nm).kind=3))
   unfold dsN
   by_cases h:k=3<;>simp [h]
theorem ZhL:∀ l:List Tm,Zpc l=(VG l).all ds1
 | []=>rfl
 |t::r=>by rw [Zpc,VG,List.all_append,Zng t,ZhL r]
end
theorem Zjp {l:List Tm} {i:Nat} (h:l[i]? = some t):(l.drop i).all ds1=(ds1 t&&(l.drop (i+1)).all ds1):=by
 rw [ZC h];rfl
theorem Zgn (a b:Tm):decide (a.cmp b=0)=decide (b.cmp a=0):=by
 by_cases h:a.cmp b=0
 · rw [decide_eq_true h,decide_eq_true (XF.2 (XF.1 h).symm)]
 · rw [decide_eq_false h,decide_eq_false fun h2=>h (XF.2 (XF.1 h2).symm)]
theorem Zsd {c:Bool} (ht:t.Ok) (h:(t.nf c).2=0):(t.nf c).1.Ok∧(t.nf c).1.size≤400:=by
 revert h
 unfold Tm.nf
 split
 · rename_i h1;intro h;exact absurd h h1
 rename_i h1
 split
 · rename_i h2;intro h;exact absurd h h2
 rename_i h2
 split
 · rename_i h3;intro h;exact absurd h h3
 split
 · rename_i h4;intro h;exact absurd h h4
 rename_i h4
 intro _
 have hs:=Yu (Classical.not_not.1 h1)
 exact ⟨cls_ok.nrm t (Classical.not_not.1 h2) (by omega) ht,Yu (Classical.not_not.1 h4)⟩
def Tm.rgt (t:Tm):Int:=if (if t.valid≠0 then t.valid else t.th)≠0 then (if t.valid≠0 then t.valid else t.th) else if t.ground=false then 13 else if t.plainB true=false then 10 else 0
end Go.Vm
namespace Go.Vm.Seat
variable {t:Tm}
open Go.Proofs
theorem QN (a b:Int):Y2 E0 .eql 35 (.int .i64 a) (.int .i64 b)=some (.bool (decide (a=b))):=by
 show some (PV.bool (a==b))=_
 by_cases h:a=b<;>simp [h]
theorem Zie (a b:Int):Y2 E0 .neq 35 (.int .i64 a) (.int .i64 b)=some (.bool (!decide (a=b))):=by
 show some (PV.bool (!(a==b)))=_
 by_cases h:a=b<;>simp [h]
theorem c67 (ht:t.Ok) (hs:t.size≤100000):∀ H,CallOk E0 Tryz.prog 67 [.agg t.cells] H (.bool (t.plainB false)) H:=by
 have hN:=c66 ht hs
 have hA:=ZrD ht hs
 have hal:=t.all_len
 have hB:t.dsB=t.all.all ds1:=rfl
 unfold Tm.plainB
 rw [hB]
 have hq:=Zie (t.nf false).2 0
 by_cases h:(t.nf false).2=0
 · obtain ⟨n1, n2⟩ := Zsd (c := false) ht h
   have hS:=Zd3 ⟨ht,by omega⟩ ⟨n1,by omega⟩
   rw [Zgn] at hS
   generalize decide ((t.nf false).1.cmp t=0)=S at hS ⊢
   rw [decide_eq_true h,h,Bool.not_true] at hq
   rw [decide_eq_true h,Bool.true_and]
   rw [h] at hN
   generalize (t.nf false).1=U at hN hS
   generalize t.all=l at hA hal ⊢
   obtain ⟨k,nm,s,b,kz⟩:=t
   obtain ⟨k2,nm2,s2,b2,kz2⟩:=U
   simp only [Tm.cells] at hN hA hS ⊢
   refine Jw tOk fe67.ok rfl ?_
   cases S
   · skip
     repeat' first|refine Jc (hN _) ?_|refine Jc (hS _) ?_|refine Ji ?_|refine Jt ?_|refine Jo ?_|fail
     all_goals rfl
   · rw [Bool.true_and]
     repeat' first|(apply qCl;rfl;rfl;rfl;rfl;first|exact hN _|exact hS _|exact hA _)|refine Ji ?_|refine Jt ?_|refine Jo ?_|fail
     refine Wp.while (fun m tm H=>∃ (i:Nat),∃ base,i+m=l.length∧l.all ds1=(l.drop i).all ds1∧tm=ovr base [(5,slV false 4 (Za l)),(6,.int .i64 (i:Int))]∧H=⟨[.cells 4 [[.int .i64 k,.str nm,.int .i64 s,slV b 4 (Za kz)]],.cells 4 [[.int .i64 k2,.str nm2,.int .i64 s2,slV b2 4 (Za kz2)]]],0,[],0⟩)
      (fun m tm H hI=>?_) l.length _ _ ⟨0,_,by omega,by simp,Zf ⟨rfl,rfl,trivial⟩,rfl⟩
     obtain ⟨i,base,hi,hall,rfl,rfl⟩:=hI
     rw [hall]
     have hcl:=Zb l
     by_cases hlt:i<l.length
     · obtain ⟨x, hx⟩ : ∃ x, l[i]? = some x := ⟨l[i], by simp⟩
       rw [Zjp hx]
       obtain ⟨k',nm',s',b',kz'⟩:=x
       have hj:=Zk hx
       have hc2:=ZpX nm'
       have hlx:=Zt (i:Int) ((Za l).length:Int)
       rw [decide_eq_true (by omega)] at hlx
       have q1:=YB k' 3
       have q2:=YB (Yo nm').kind 3
       simp only [ds1]
       generalize (Yo nm').kind=B at hc2 q2 ⊢
       generalize decide (k'=3)=C1 at q1 ⊢
       generalize decide (B=3)=C2 at q2 ⊢
       cases C1
       · skip
         repeat' first|refine Jk ?_|refine Ji ?_|refine Jl ?_|refine Jx ?_|refine Jt ?_|refine Jo ?_|fail
         exact LoopI.go (m-1) (by omega) ⟨i+1,_,by omega,rfl,Zf ⟨rfl,Zd (Zc (n:=i+1) (by omega)),trivial⟩,rfl⟩
       · cases C2
         · skip
           repeat' first|refine Jc (hc2 _) ?_|refine Ji ?_|refine Jl ?_|refine Jx ?_|refine Jt ?_|refine Jo ?_|fail
           exact LoopI.go (m-1) (by omega) ⟨i+1,_,by omega,rfl,Zf ⟨rfl,Zd (Zc (n:=i+1) (by omega)),trivial⟩,rfl⟩
         · skip
           repeat' first|refine Jc (hc2 _) ?_|refine Ji ?_|refine Jl ?_|refine Jx ?_|refine Jt ?_|refine Jo ?_|fail
           all_goals rfl
     · have e : i = l.length := by omega
       subst e
       have hlx:=Zt (l.length:Int) ((Za l).length:Int)
       rw [decide_eq_false (by omega)] at hlx
       repeat' first|refine Ji ?_|refine Jl ?_|refine Jt ?_|refine Jo ?_|fail
       rw [List.drop_length];rfl
 · rw [decide_eq_false h, Bool.not_false] at hq
   rw [decide_eq_false h]
   generalize (t.nf false).2=v at hN hq
   generalize (t.nf false).1=U at hN ⊢
   obtain ⟨k,nm,s,b,kz⟩:=t
   obtain ⟨k2,nm2,s2,b2,kz2⟩:=U
   simp only [Tm.cells] at hN ⊢
   refine Jw tOk fe67.ok rfl ?_
   repeat' first|refine Jk ?_|refine Jc (hN _) ?_|refine Ji ?_|refine Jt ?_|refine Jo ?_|fail
   all_goals rfl
theorem c80 (ht:t.Ok) (hs:t.size≤90000):∀ H,CallOk E0 Tryz.prog 80 [.agg t.cells] H (.int .i64 t.rgt) H:=by
 have h1:=Zrl ht (by omega)
 have h2:=Zss ht (by omega)
 have h3:=c67 ht (by omega)
 rw [← ZfW] at h3
 unfold Tm.rgt
 have n1:=Zie (if t.valid≠0 then t.valid else t.th) 0
 generalize (if t.valid≠0 then t.valid else t.th)=e1 at h1 n1 ⊢
 generalize t.plainB true=f at h3 ⊢
 generalize t.ground=g at h2 ⊢
 obtain ⟨k,nm,s,tb,kz⟩:=t
 simp only [Tm.cells] at h1 h2 h3 ⊢
 refine Jw tOk fe80.ok rfl ?_
 by_cases c1:e1=0
 · rw [decide_eq_true c1] at n1
   rw [if_neg (by omega)]
   subst c1
   cases g
   · skip
     repeat' first|refine Jc (h1 _) ?_|refine Jc (h2 _) ?_|refine Ji ?_|refine Jt ?_|refine Jo ?_|fail
     all_goals rfl
   · cases f
     all_goals
      repeat' first|(apply qCl;rfl;rfl;rfl;rfl;first|exact h1 _|exact h2 _|exact h3 _)|refine Ji ?_|refine Jt ?_|refine Jo ?_|fail
      all_goals rfl
 · rw [decide_eq_false c1] at n1
   rw [if_pos c1]
   repeat' first|refine Jc (h1 _) ?_|refine Ji ?_|refine Jo ?_|fail
   all_goals rfl
end Go.Vm.Seat
namespace Go.Vm
def ZoD (m:Mo):Bool:=decide (m.num<0)||(decide (99<m.num)||(decide (m.role<0)||(decide (4≤m.role)||(decide (m.goal<0)||decide (7<m.goal)))))
theorem or6 (b0 b1 b2 b3 b4 b5:Bool):b0=true∨(b0=false∧b1=true)∨(b0=false∧b1=false∧b2=true)∨(b0=false∧b1=false∧b2=false∧b3=true)∨(b0=false∧b1=false∧b2=false∧b3=false∧b4=true)∨(b0=false∧b1=false∧b2=false∧b3=false∧b4=false∧b5=true)∨(b0=false∧b1=false∧b2=false∧b3=false∧b4=false∧b5=false):=by
 cases b0<;>cases b1<;>cases b2<;>cases b3<;>cases b4<;>cases b5<;>simp
def Zlm:List Tm→Int
 | []=>0
 |t::r=>if t.rgt≠0 then t.rgt else Zlm r
theorem ZiE {l:List Tm} {i:Nat} {t:Tm} (h:l[i]? = some t):Zlm (l.drop i)=if t.rgt≠0 then t.rgt else Zlm (l.drop (i+1)):=by
 rw [ZC h];rfl
def Mo.alone (m:Mo):Int:=if ZbJ m=false then 1 else if ZoD m=true then 7 else if (m.agents.any fun s=> !Zbd s)=true then 2 else Zlm m.terms
structure Mo.Sm (m:Mo):Prop where
 ok:m.Ok
 al:m.agents.length≤1000
 tl:m.terms.length≤1000
 ts:∀ t,t∈m.terms→t.Ok∧t.size≤90000
end Go.Vm
namespace Go.Vm.Seat
open Go.Proofs
