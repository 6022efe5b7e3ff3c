/-
  What the variables hold that the code of the credentials reads: the row's cell '
-/
import Derived.Test.YtpgfeijkfmgnjaaGreatDoorGj
import Derived.Test.YtpgfeijkfmgnjaaGreatDoorRows
import Derived.ProofKit
import Derived.Stop.LaidErr
import Derived.Lib.LaidTab
set_option maxHeartbeats 0
set_option maxRecDepth 100000
namespace Go.Vm.Seat
variable {k t:Tm} {S:Nat}
open Go.Proofs
theorem Zdc (k:Int) (nm:Bs) (s:Int) (b:Bool) (kz:List Tm) (w:Bs) (n:Nat):(Tm.mk k nm s b kz).isB w n=(decide (k=3)&&(decide (nm=w)&&decide (kz.length=n))):=by
 simp only [Tm.isB]
 congr 2
 by_cases h:nm=w<;>simp [h]
theorem ZpQ (l:List Tm):ZP E0 .eql 3 (.int .i64 ((Za l).length:Int)) (.int .i64 2)=some (.bool (decide (l.length=2))):=by
 show some (PV.bool (((Za l).length:Int)==2))=_
 rw [Zb]
 congr 2
 rw [Bool.eq_iff_iff]
 simp
 omega
theorem ZpV (t:Tm) (w:Bs):∀ H,CallOk E0 Tryz.prog 116 [.agg t.cells,.str w] H (.bool (t.isB w 2)) H:=by
 obtain ⟨k,nm,s,b,kz⟩:=t
 rw [Zdc]
 have hl:=ZpQ kz
 simp only [Tm.cells]
 generalize decide (kz.length=2)=D at hl ⊢
 by_cases h1:k=3
 · rw [decide_eq_true h1]
   have e1:=ZbX h1
   by_cases h2:nm=w
   · rw [decide_eq_true h2]
     have e2:=ZlH h2
     clear h1 h2
     refine Jw tOk fe116.ok rfl ?_
     repeat' first|refine Ji ?_|refine Jl ?_|refine Jt ?_|refine Jo ?_|fail
     all_goals rfl
   · rw [decide_eq_false h2]
     have e2:=ZlJ h2
     refine Jw tOk fe116.ok rfl ?_
     repeat' first|refine Jk ?_|refine Ji ?_|refine Jt ?_|refine Jo ?_|fail
     all_goals rfl
 · rw [decide_eq_false h1]
   have e1:=VC h1
   refine Jw tOk fe116.ok rfl ?_
   repeat' first|refine Jk ?_|refine Ji ?_|refine Jt ?_|refine Jo ?_|fail
   all_goals rfl
theorem Zp8 {w:Bs} (h:t.isB w 2=true):∃ s b x y,t= .mk 3 w s b [x,y]:=by
 obtain ⟨k,nm,s,b,kz⟩:=t
 rw [Zdc] at h
 simp only [Bool.and_eq_true,decide_eq_true_eq] at h
 obtain ⟨rfl,rfl,h⟩:=h
 match kz,h with
 | [x,y],_=>exact ⟨s,b,x,y,rfl⟩
theorem ZhV {k:Int} {nm:Bs} {s:Int} {b:Bool} {x y:Tm} (h:(Tm.mk k nm s b [x,y]).Ok) (hs:(Tm.mk k nm s b [x,y]).size≤S):(x.Ok∧x.size≤S)∧y.Ok∧y.size≤S:=by
 simp only [Tm.size,Zx] at hs
 cases h with
 |mk _ _ _ _ hk=>exact ⟨⟨hk x (by simp),by omega⟩,hk y (by simp),by omega⟩
def sgX (t:Tm):Tm:=YB (Ue (YB t))
def sgY (t:Tm):Tm:=Ue (Ue (YB t))
def sgP (t k z:Tm):Tm×Tm×Bool:=if Zcg t k=true then (sgX t,sgY t,true) else (z,z,false)
theorem Zkd (k:Int) (nm:Bs) (s:Int) (b:Bool) (l:List Tm):Zi0 (.mk k nm s b l)=(decide (k=2)&&decide (s=4)):=rfl
theorem Zov (a b:Int):ZP E0 .neq 3 (.int .i64 a) (.int .i64 b)=some (.bool (!decide (a=b))):=by
 show some (PV.bool (!(a==b)))=_
 by_cases h:a=b<;>simp [h]
theorem Zo1 (a b:Int):ZP E0 .eql 3 (.int .i64 a) (.int .i64 b)=some (.bool (decide (a=b))):=by
 show some (PV.bool (a==b))=_
 by_cases h:a=b<;>simp [h]
theorem ZfU (t:Tm):frzG (.agg t.cells)=some (.agg t.cells):=by
 obtain ⟨k,nm,s,tb,kz⟩:=t
 simp only [Tm.cells,frzG,XY,ZD]
 rfl
theorem Zql (t k:Tm):ZJ [.agg t.cells,.agg k.cells]=some [.agg t.cells,.agg k.cells]:=by
 simp only [ZJ,ZfU]
theorem c79 {Z:Tm} (hZ:Z.cells= [.int .i64 0,.str [],.int .i64 0,.nils]) (ht:t.Ok) (hts:t.size≤1000000) (hk:k.Ok) (hks:k.size≤1000000):∀ H,CallOk E0 Tryz.prog 79 [.agg t.cells,.agg k.cells] H (.tup [.agg (sgP t k Z).1.cells,.agg (sgP t k Z).2.1.cells,.bool (sgP t k Z).2.2]) H:=by
 have c1:=ZpV t V2
 have cg:=c69 Xf
 have hgo:(Wd Xf).Ok∧(Wd Xf).size≤1000000:=⟨Ziw (by decide),by decide⟩
 have hfz:=Zql t k
 have hfr:=fun m H=>VO m H
 have hfin:∀ x y:Tm,∀ m H,frz3 m H (.tup [.agg x.cells,.agg y.cells,.bool false])=some (.tup [.agg x.cells,.agg y.cells,.bool false]):=fun x y m H=>hfr m H x y false
 cases hB1:t.isB V2 2 with
 | false =>
   have e:sgP t k Z=(Z,Z,false):=by simp only [sgP,Zcg,hB1,Bool.false_and];rfl
   rw [e]
   rw [hB1] at c1
   have hf:=hfin Z Z
   clear hfin hfr cg hgo hB1 e
   try simp only [hZ] at hf ⊢
   obtain ⟨k1,nm1,s1,b1,kz1⟩:=t
   obtain ⟨k2,nm2,s2,b2,kz2⟩:=k
   simp only [Tm.cells] at c1 hfz hf ⊢
   refine Zm (own:=(fun d=>[29999,50065,50072,50073,40128,40570,40602].any (Nat.beq d))) tOk fe79.ok hfz (hf 0 hNil) ?_
   refine Wp.seq ?_
   repeat' first|refine Jt ?_|refine Jo ?_|(apply dK;rfl;rfl;rfl)|refine Jd (c1 _) ?_|(apply dT (ty:=4);rfl;rfl;rfl;rfl)|refine Jh ?_|(apply Wp.drawS tOk follows;kernel_rfl;rfl)|fail
   all_goals exact hf _ _
 | true =>
   obtain ⟨s,b,x,y,rfl⟩:=Zp8 hB1
   obtain ⟨⟨hx,hxs⟩,hy,hys⟩:=ZhV ht hts
   rw [hB1] at c1
   have c2:=c77 hy hk hys hks
   have hj0:(Za [x,y])[0]? = some x.cells:=rfl
   have hj1:(Za [x,y])[1]? = some y.cells:=rfl
   have k0:YB (.mk 3 V2 s b [x,y])=x:=rfl
   have k1:Ue (.mk 3 V2 s b [x,y])=y:=rfl
   have c3:=ZpV x Z9
   cases hB2:decide (y.cmp k=0) with
   | false =>
     have e:sgP (.mk 3 V2 s b [x,y]) k Z=(Z,Z,false):=by simp only [sgP,Zcg,hB1,k1,hB2,Bool.false_and,Bool.and_false];rfl
     rw [e]
     rw [hB2] at c2
     have hf:=hfin Z Z
     clear hfin hfr cg hgo hB1 hB2 e c3 k0 k1
     try simp only [hZ] at hf ⊢
     simp only [Tm.cells] at c1 hfz hf ⊢
     generalize Za [x,y]=L at c1 hj0 hj1 hfz hf ⊢
     obtain ⟨k2,nm2,s2,b2,kz2⟩:=k
     obtain ⟨k3,nm3,s3,b3,kz3⟩:=x
     obtain ⟨k4,nm4,s4,b4,kz4⟩:=y
     simp only [Tm.cells] at c1 c2 hj0 hj1 hfz hf ⊢
     refine Zm (own:=(fun d=>[29999,50065,50072,50073,40128,40570,40602].any (Nat.beq d))) tOk fe79.ok hfz (hf 0 hNil) ?_
     refine Wp.seq ?_
     repeat' first|refine Jt ?_|refine Jo ?_|(apply dK;rfl;rfl;rfl)|refine Jd (c1 _) ?_|refine Jd (c2 _) ?_|refine JI ?_|(apply dT (ty:=4);rfl;rfl;rfl;rfl)|(apply dF (ty:=4);rfl;rfl;rfl;rfl)|refine Jh ?_|(apply Wp.drawS tOk follows;kernel_rfl;rfl)|fail
     all_goals exact hf _ _
   | true =>
     rw [hB2] at c2
     cases hB3:x.isB Z9 2 with
     | false =>
       have e:sgP (.mk 3 V2 s b [x,y]) k Z=(Z,Z,false):=by simp only [sgP,Zcg,hB1,k0,k1,hB2,hB3,Bool.false_and,Bool.and_false];rfl
       rw [e]
       rw [hB3] at c3
       have hf:=hfin Z Z
       clear hfin hfr cg hgo hB1 hB2 hB3 e k0 k1
       try simp only [hZ] at hf ⊢
       simp only [Tm.cells] at c1 hfz hf ⊢
       generalize Za [x,y]=L at c1 hj0 hj1 hfz hf ⊢
       obtain ⟨k2,nm2,s2,b2,kz2⟩:=k
       obtain ⟨k3,nm3,s3,b3,kz3⟩:=x
       obtain ⟨k4,nm4,s4,b4,kz4⟩:=y
       simp only [Tm.cells] at c1 c2 c3 hj0 hj1 hfz hf ⊢
       refine Zm (own:=(fun d=>[29999,50065,50072,50073,40128,40570,40602].any (Nat.beq d))) tOk fe79.ok hfz (hf 0 hNil) ?_
       refine Wp.seq ?_
       repeat' first|refine Jt ?_|refine Jo ?_|(apply dK;rfl;rfl;rfl)|(apply dCl;rfl;rfl;rfl;rfl;rfl;first|exact c1 _|exact c2 _|exact c3 _)|refine JI ?_|(apply dT (ty:=4);rfl;rfl;rfl;rfl)|(apply dF (ty:=4);rfl;rfl;rfl;rfl)|refine Jh ?_|(apply Wp.drawS tOk follows;kernel_rfl;rfl)|fail
       all_goals exact hf _ _
     | true =>
       obtain ⟨s',b',u,v,rfl⟩:=Zp8 hB3
       obtain ⟨⟨hu,hus⟩,hv,hvs⟩:=ZhV hx hxs
       rw [hB3] at c3
       have c4:=c77 hu hgo.1 hus hgo.2
       have c5:=ZpV v Z9
       have hi0:(Za [u,v])[0]? = some u.cells:=rfl
       have hi1:(Za [u,v])[1]? = some v.cells:=rfl
       have k2:YB (.mk 3 Z9 s' b' [u,v])=u:=rfl
       have k3:Ue (.mk 3 Z9 s' b' [u,v])=v:=rfl
       generalize hG:Wd Xf=G at cg c4 hgo
       cases hB4:decide (u.cmp G=0) with
       | false =>
         have e:sgP (.mk 3 V2 s b [.mk 3 Z9 s' b' [u,v],y]) k Z=(Z,Z,false):=by simp only [sgP,Zcg,hB1,k0,k1,k2,k3,hB2,hB3,hG,hB4,Bool.false_and,Bool.and_false];rfl
         rw [e]
         rw [hB4] at c4
         have hf:=hfin Z Z
         clear hfin hfr hgo hB1 hB2 hB3 hB4 e k0 k1 k2 k3 hG
         try simp only [hZ] at hf ⊢
         simp only [Tm.cells] at c1 hj0 c3 hfz hf ⊢
         generalize Za [.mk 3 Z9 s' b' [u,v],y]=L at c1 hj0 hj1 hfz hf ⊢
         generalize Za [u,v]=M at c3 hi0 hi1 hj0
         obtain ⟨k2,nm2,s2,b2,kz2⟩:=k
         obtain ⟨k3,nm3,s3,b3,kz3⟩:=u
         obtain ⟨k4,nm4,s4,b4,kz4⟩:=y
         obtain ⟨k5,nm5,s5,b5,kz5⟩:=G
         simp only [Tm.cells] at c1 c2 c3 c4 cg hj0 hj1 hi0 hi1 hfz hf ⊢
         refine Zm (own:=(fun d=>[29999,50065,50072,50073,40128,40570,40602].any (Nat.beq d))) tOk fe79.ok hfz (hf 0 hNil) ?_
         refine Wp.seq ?_
         repeat' first|refine Jt ?_|refine Jo ?_|(apply dCl;rfl;rfl;rfl;rfl;rfl;first|exact c1 _|exact c2 _|exact c3 _|exact c4 _|exact cg _)|refine JI ?_|(apply dT (ty:=4);rfl;rfl;rfl;rfl)|(apply dF (ty:=4);rfl;rfl;rfl;rfl)|refine Jh ?_|(apply Wp.drawS tOk follows;kernel_rfl;rfl)|fail
         all_goals exact hf _ _
       | true =>
         rw [hB4] at c4
         cases hB5:v.isB Z9 2 with
         | false =>
           have e:sgP (.mk 3 V2 s b [.mk 3 Z9 s' b' [u,v],y]) k Z=(Z,Z,false):=by simp only [sgP,Zcg,hB1,k0,k1,k2,k3,hB2,hB3,hG,hB4,hB5,Bool.false_and,Bool.and_false];rfl
           rw [e]
           rw [hB5] at c5
           have hf:=hfin Z Z
           clear hfin hfr hgo hB1 hB2 hB3 hB4 hB5 e k0 k1 k2 k3 hG
           try simp only [hZ] at hf ⊢
           simp only [Tm.cells] at c1 hj0 c3 hfz hf ⊢
           generalize Za [.mk 3 Z9 s' b' [u,v],y]=L at c1 hj0 hj1 hfz hf ⊢
           generalize Za [u,v]=M at c3 hi0 hi1 hj0
           obtain ⟨k2,nm2,s2,b2,kz2⟩:=k
           obtain ⟨k3,nm3,s3,b3,kz3⟩:=u
           obtain ⟨k4,nm4,s4,b4,kz4⟩:=y
           obtain ⟨k5,nm5,s5,b5,kz5⟩:=G
           obtain ⟨k6,nm6,s6,b6,kz6⟩:=v
           simp only [Tm.cells] at c1 c2 c3 c4 c5 cg hj0 hj1 hi0 hi1 hfz hf ⊢
           refine Zm (own:=(fun d=>[29999,50065,50072,50073,40128,40570,40602].any (Nat.beq d))) tOk fe79.ok hfz (hf 0 hNil) ?_
           refine Wp.seq ?_
           repeat' first|refine Jk ?_|refine Jc (c5 _) ?_|refine Jx ?_|refine Jt ?_|refine Jo ?_|(apply dCl;rfl;rfl;rfl;rfl;rfl;first|exact c1 _|exact c2 _|exact c3 _|exact c4 _|exact cg _)|refine JI ?_|(apply dF (ty:=4);rfl;rfl;rfl;rfl)|refine Jh ?_|(apply Wp.drawS tOk follows;kernel_rfl;rfl)|fail
           all_goals exact hf _ _
         | true =>
           obtain ⟨s'',b'',n,w,rfl⟩:=Zp8 hB5
           rw [hB5] at c5
           have hm0:(Za [n,w])[0]? = some n.cells:=rfl
           have hm1:(Za [n,w])[1]? = some w.cells:=rfl
           have k4:YB (.mk 3 Z9 s'' b'' [n,w])=n:=rfl
           have k5:Ue (.mk 3 Z9 s'' b'' [n,w])=w:=rfl
           have e:sgP (.mk 3 V2 s b [.mk 3 Z9 s' b' [u,.mk 3 Z9 s'' b'' [n,w]],y]) k Z=if Zi0 n=true then (n,w,true) else (Z,Z,false):=by simp only [sgP,Zcg,sgX,sgY,hB1,k0,k1,k2,k3,k4,k5,hB2,hB3,hG,hB4,hB5,Bool.true_and]
           rw [e]
           clear e hgo hB1 hB2 hB3 hB4 hB5 k0 k1 k2 k3 k4 k5 hG
           obtain ⟨kn,nmn,sn,bn,kzn⟩:=n
           rw [Zkd]
           have q1:=Zov kn 2
           have q2:=Zov sn 4
           have q3:=Zo1 kn 2
           have q4:=Zo1 sn 4
           generalize decide (kn=2)=D1 at q1 q3 ⊢
           generalize decide (sn=4)=D2 at q2 q4 ⊢
           have hf:=hfr
           have hz:=hfin Z Z
           have hf:=fun m H=>hfr m H (.mk kn nmn sn bn kzn) w true
           clear hfin hfr
           have hO:(D1=true∧D2=true)∨D1=false∨(D1=true∧D2=false):=by cases D1<;>cases D2<;>simp
           rcases hO with ⟨rfl,rfl⟩|rfl|⟨rfl,rfl⟩
           all_goals simp only [Bool.true_and,Bool.false_and,Bool.false_eq_true,if_false,if_true]
           all_goals
            try simp only [hZ] at hz ⊢
            simp only [Tm.cells] at c1 hj0 c3 hi1 c5 hm0 hf hfz hz ⊢
            generalize Za [.mk 3 Z9 s' b' [u,.mk 3 Z9 s'' b'' [.mk kn nmn sn bn kzn,w]],y]=L at c1 hj0 hj1 hfz hz ⊢
            generalize Za [u,.mk 3 Z9 s'' b'' [.mk kn nmn sn bn kzn,w]]=M at c3 hi0 hi1 hj0
            generalize Za [.mk kn nmn sn bn kzn,w]=N at c5 hm0 hm1 hi1
            obtain ⟨k2,nm2,s2,b2,kz2⟩:=k
            obtain ⟨k3,nm3,s3,b3,kz3⟩:=u
            obtain ⟨k4,nm4,s4,b4,kz4⟩:=y
            obtain ⟨k5,nm5,s5,b5,kz5⟩:=G
            obtain ⟨k6,nm6,s6,b6,kz6⟩:=w
            simp only [Tm.cells] at c1 c2 c3 c4 c5 cg hj0 hj1 hi0 hi1 hm0 hm1 hf hfz hz ⊢
            first
             | refine Zm (own:=(fun d=>[29999,50065,50072,50073,40128,40570,40602].any (Nat.beq d))) tOk fe79.ok hfz (hf 0 hNil) ?_
             | refine Zm (own:=(fun d=>[29999,50065,50072,50073,40128,40570,40602].any (Nat.beq d))) tOk fe79.ok hfz (hz 0 hNil) ?_
            refine Wp.seq ?_
            repeat' first|refine Jk ?_|refine Jc (c5 _) ?_|refine Ji ?_|refine Jx ?_|refine Jt ?_|refine Jo ?_|(apply dCl;rfl;rfl;rfl;rfl;rfl;first|exact c1 _|exact c2 _|exact c3 _|exact c4 _|exact cg _)|refine JI ?_|(apply dT (ty:=4);rfl;rfl;rfl;rfl)|(apply dF (ty:=4);rfl;rfl;rfl;rfl)|refine Jh ?_|(apply Wp.drawS tOk follows;kernel_rfl;rfl)|fail
           all_goals first
            | exact hf _ _
            | exact hz _ _
theorem Zhr (ht:t.Ok) (hs:t.size≤S) (h1:1≤S):(Ue t).Ok∧(Ue t).size≤S:=by
 obtain ⟨k,nm,s,b,kz⟩:=t
 have hz:Tm.zero.Ok∧Tm.zero.size≤S:=⟨Tm.ok_zero,by have:Tm.zero.size=1:=rfl;omega⟩
 match kz with
 | []=>exact hz
 | [_]=>exact hz
 | a :: x :: r =>
   cases ht with
   | mk _ _ _ _ hk =>
     refine ⟨hk x (by simp),?_⟩
     simp only [Tm.size,Zx] at hs
     show x.size≤S
     omega
theorem ZcK (ht:t.Ok) (hs:t.size≤S) (h1:1≤S):(YB t).Ok∧(YB t).size≤S:=by
 obtain ⟨k,nm,s,b,kz⟩:=t
 have hz:Tm.zero.Ok∧Tm.zero.size≤S:=⟨Tm.ok_zero,by have:Tm.zero.size=1:=rfl;omega⟩
 match kz with
 | []=>exact hz
 | x :: r =>
   cases ht with
   | mk _ _ _ _ hk =>
     refine ⟨hk x (by simp),?_⟩
     simp only [Tm.size,Zx] at hs
     show x.size≤S
     omega
theorem ZlZ (ht:t.Ok) (hs:t.size≤S) (h1:1≤S):((sgX t).Ok∧(sgX t).size≤S)∧(sgY t).Ok∧(sgY t).size≤S:=by
 have a:=ZcK ht hs h1
 have b:=Zhr a.1 a.2 h1
 exact ⟨ZcK b.1 b.2 h1,Zhr b.1 b.2 h1⟩
theorem Zc9 (ht:t.Ok) (hts:t.size≤1000000) (hk:k.Ok) (hks:k.size≤1000000):∃ X Y:Tm,(Zcg t k=true→X=sgX t∧Y=sgY t)∧∀ H,CallOk E0 Tryz.prog 79 [.agg t.cells,.agg k.cells] H (.tup [.agg X.cells,.agg Y.cells,.bool (Zcg t k)]) H:=by
 have h:=c79 (Z:= .zero) Zk ht hts hk hks
 unfold sgP at h
 cases e:Zcg t k with
 |true=>rw [e] at h;exact ⟨_,_,fun _=>⟨rfl,rfl⟩,h⟩
 |false=>rw [e] at h;exact ⟨_,_,fun q=>(by cases q),h⟩
theorem Zqj (a b k:Tm):ZJ [.agg a.cells,.agg b.cells,.agg k.cells]=some [.agg a.cells,.agg b.cells,.agg k.cells]:=by
 simp only [ZJ,ZfU]
theorem c35 {a b:Tm} (ha:a.Ok) (has:a.size≤1000000) (hb:b.Ok) (hbs:b.size≤1000000) (hk:k.Ok) (hks:k.size≤1000000):∀ H,CallOk E0 Tryz.prog 35 [.agg a.cells,.agg b.cells,.agg k.cells] H (.bool (ZcI a b k)) H:=by
 obtain ⟨X,Y,e1,c1⟩:=Zc9 ha has hk hks
 obtain ⟨X',Y',e2,c2⟩:=Zc9 hb hbs hk hks
 have h1:=ZlZ ha has (by omega)
 have h2:=ZlZ hb hbs (by omega)
 have s1:=c77 h1.1.1 h2.1.1 h1.1.2 h2.1.2
 have s2:=c77 h1.2.1 h2.2.1 h1.2.2 h2.2.2
 have hfz:=Zqj a b k
 have e:ZcI a b k=(Zcg a k&&(Zcg b k&&(decide ((sgX a).cmp (sgX b)=0)&& !decide ((sgY a).cmp (sgY b)=0)))):=rfl
 rw [e]
 clear h1 h2 e ha hb hk has hbs hks
 generalize Zcg a k=A at e1 c1 ⊢
 generalize Zcg b k=B at e2 c2 ⊢
 have hO:A=false∨(A=true∧B=false)∨(A=true∧B=true):=by cases A<;>cases B<;>simp
 rcases hO with rfl|⟨rfl,rfl⟩|⟨rfl,rfl⟩
 · simp only [Bool.false_and]
   clear e1 e2 s1 s2
   obtain ⟨k1,nm1,z1,t1,kz1⟩:=a
   obtain ⟨k2,nm2,z2,t2,kz2⟩:=b
   obtain ⟨k3,nm3,z3,t3,kz3⟩:=k
   obtain ⟨k4,nm4,z4,t4,kz4⟩:=X
   obtain ⟨k5,nm5,z5,t5,kz5⟩:=Y
   obtain ⟨k6,nm6,z6,t6,kz6⟩:=X'
   obtain ⟨k7,nm7,z7,t7,kz7⟩:=Y'
   simp only [Tm.cells] at c1 c2 hfz ⊢
   refine Jw tOk fe35.ok rfl ?_ hfz
   repeat' first|refine Jk ?_|refine Jc (c1 _) ?_|refine Jc (c2 _) ?_|refine Jt ?_|refine Jo ?_|fail
   all_goals rfl
 · simp only [Bool.false_and, Bool.true_and]
   clear e1 e2 s1 s2
   obtain ⟨k1,nm1,z1,t1,kz1⟩:=a
   obtain ⟨k2,nm2,z2,t2,kz2⟩:=b
   obtain ⟨k3,nm3,z3,t3,kz3⟩:=k
   obtain ⟨k4,nm4,z4,t4,kz4⟩:=X
   obtain ⟨k5,nm5,z5,t5,kz5⟩:=Y
   obtain ⟨k6,nm6,z6,t6,kz6⟩:=X'
   obtain ⟨k7,nm7,z7,t7,kz7⟩:=Y'
   simp only [Tm.cells] at c1 c2 hfz ⊢
   refine Jw tOk fe35.ok rfl ?_ hfz
   repeat' first|refine Jk ?_|refine Jc (c1 _) ?_|refine Jc (c2 _) ?_|refine Jt ?_|refine Jo ?_|fail
   all_goals rfl
 · simp only [Bool.true_and]
   obtain ⟨rfl,rfl⟩:=e1 rfl
   obtain ⟨rfl,rfl⟩:=e2 rfl
   clear e1 e2
   generalize decide ((sgX a).cmp (sgX b)=0)=D1 at s1 ⊢
   generalize decide ((sgY a).cmp (sgY b)=0)=D2 at s2 ⊢
   generalize sgX a=X at c1 s1
   generalize sgY a=Y at c1 s2
   generalize sgX b=X' at c2 s1
   generalize sgY b=Y' at c2 s2
   obtain ⟨k1,nm1,z1,t1,kz1⟩:=a
   obtain ⟨k2,nm2,z2,t2,kz2⟩:=b
   obtain ⟨k3,nm3,z3,t3,kz3⟩:=k
   obtain ⟨k4,nm4,z4,t4,kz4⟩:=X
   obtain ⟨k5,nm5,z5,t5,kz5⟩:=Y
   obtain ⟨k6,nm6,z6,t6,kz6⟩:=X'
   obtain ⟨k7,nm7,z7,t7,kz7⟩:=Y'
   simp only [Tm.cells] at c1 c2 s1 s2 hfz ⊢
   cases D1<;>cases D2
   all_goals
    refine Jw tOk fe35.ok rfl ?_ hfz
    repeat' first|refine Jk ?_|(apply qCl;rfl;rfl;rfl;rfl;first|exact c1 _|exact c2 _|exact s1 _|exact s2 _)|refine Jt ?_|refine Jo ?_|fail
   all_goals rfl
theorem Zp1 (a b:Rd):ZJ [.agg a.cells,.agg b.cells]=some [.agg a.cells,.agg b.cells]:=by
 obtain ⟨⟨k1,nm1,s1,b1,kz1⟩,n,⟨k2,nm2,s2,b2,kz2⟩,k3,nm3,s3,b3,kz3⟩:=a
 obtain ⟨⟨k4,nm4,s4,b4,kz4⟩,n',⟨k5,nm5,s5,b5,kz5⟩,k6,nm6,s6,b6,kz6⟩:=b
 simp only [Rd.cells,Tm.cells,List.cons_append,List.nil_append,ZJ,frzG,XY,ZD]
 rfl
theorem c12 {a b:Rd} (ha:ZiF 20000 a) (hb:ZiF 20000 b):∀ H,CallOk E0 Tryz.prog 12 [.agg a.cells,.agg b.cells] H (.tup [.bool (Znx a b).1,.int .i64 (Znx a b).2]) H:=by
 obtain ⟨x,hx,c1⟩:=c30 ha
 obtain ⟨y,hy,c2⟩:=c30 hb
 have hk:=ZcK ha.1.1 ha.1.2 (by omega)
 have cs:=c32 ha.1.1 hb.1.1 (by have:=ha.1.2;omega) (by have:=hb.1.2;omega)
 have cf:=c35 ha.2.2.1 (by have:=ha.2.2.2;omega) hb.2.2.1 (by have:=hb.2.2.2;omega) hk.1 (by have:=hk.2;omega)
 have hfz:=Zp1 a b
 try rw [Zcz] at hx c1
 try rw [Zcz] at hy c2
 have e:Znx a b=if VI id a=false∨VI id b=false then (false,1) else if decide (a.svc.cmp b.svc=0)=false then (false,11) else (ZcI a.signed b.signed (YB a.svc),0):=by
  unfold Znx
  congr 1
  by_cases h:a.svc.cmp b.svc=0<;>simp [h]
 rw [e]
 clear e hk ha hb hy
 generalize VI id a=A at hx c1 ⊢
 generalize VI id b=B at c2 ⊢
 generalize decide (a.svc.cmp b.svc=0)=D at cs ⊢
 generalize ZcI a.signed b.signed (YB a.svc)=F at cf ⊢
 have hO:A=false∨(A=true∧B=false)∨(A=true∧B=true):=by cases A<;>cases B<;>simp
 rcases hO with rfl|⟨rfl,rfl⟩|⟨rfl,rfl⟩
 · simp only [true_or, if_true]
   clear hx
   obtain ⟨⟨k1,nm1,s1,b1,kz1⟩,n,⟨k2,nm2,s2,b2,kz2⟩,k3,nm3,s3,b3,kz3⟩:=a
   obtain ⟨⟨k4,nm4,s4,b4,kz4⟩,n',⟨k5,nm5,s5,b5,kz5⟩,k6,nm6,s6,b6,kz6⟩:=b
   obtain ⟨k7,nm7,s7,b7,kz7⟩:=x
   obtain ⟨k8,nm8,s8,b8,kz8⟩:=y
   simp only [Rd.cells,Tm.cells,List.cons_append,List.nil_append] at c1 c2 hfz ⊢
   refine Jw tOk fe12.ok rfl ?_ hfz
   repeat' first|refine Jc (c1 _) ?_|refine Jt ?_|refine Jo ?_|fail
   all_goals rfl
 · simp only [or_true, if_true]
   clear hx
   obtain ⟨⟨k1,nm1,s1,b1,kz1⟩,n,⟨k2,nm2,s2,b2,kz2⟩,k3,nm3,s3,b3,kz3⟩:=a
   obtain ⟨⟨k4,nm4,s4,b4,kz4⟩,n',⟨k5,nm5,s5,b5,kz5⟩,k6,nm6,s6,b6,kz6⟩:=b
   obtain ⟨k7,nm7,s7,b7,kz7⟩:=x
   obtain ⟨k8,nm8,s8,b8,kz8⟩:=y
   simp only [Rd.cells,Tm.cells,List.cons_append,List.nil_append] at c1 c2 hfz ⊢
   refine Jw tOk fe12.ok rfl ?_ hfz
   repeat' first|refine Jc (c1 _) ?_|refine Jc (c2 _) ?_|refine Jt ?_|refine Jo ?_|fail
   all_goals rfl
 · obtain rfl := hx rfl
   clear hx
   simp only [Bool.true_eq_false,or_self,if_false]
   generalize YB a.svc=x at c1 cf
   obtain ⟨⟨k1,nm1,s1,b1,kz1⟩,n,⟨k2,nm2,s2,b2,kz2⟩,k3,nm3,s3,b3,kz3⟩:=a
   obtain ⟨⟨k4,nm4,s4,b4,kz4⟩,n',⟨k5,nm5,s5,b5,kz5⟩,k6,nm6,s6,b6,kz6⟩:=b
   obtain ⟨k7,nm7,s7,b7,kz7⟩:=x
   obtain ⟨k8,nm8,s8,b8,kz8⟩:=y
   simp only [Rd.cells,Tm.cells,List.cons_append,List.nil_append] at c1 c2 cs cf hfz ⊢
   cases D
   all_goals simp only [Bool.true_eq_false,if_false,if_true]
   all_goals
    refine Jw tOk fe12.ok rfl ?_ hfz
    repeat' first|(apply qCl;rfl;rfl;rfl;rfl;first|exact c1 _|exact c2 _|exact cs _|exact cf _)|refine Jt ?_|refine Jo ?_|fail
   all_goals rfl
open Go.Proofs.YtpgfeijkfmgnjaaGreatDoor Go.RowKit
theorem ZoF: "*" ++ "errors.errorString" = "*errors.errorString" :=by decide
theorem ZlU (u:TypeId) (h:Tryz.prog.typeName? 3 u=some "*errors.errorString"):u=238:=
 typeName_ptr_named (nm:= "errors.errorString") (by rw [ZoF];kernel_rfl) (by kernel_rfl) (by decide) u (by rw [ZoF];exact h)
theorem Zvj {W:World} (h:laidMetH Tryz.prog Rows.keyserviceFollowsRow.laid W):GOk E0 (wG W):=by
 have h:laidMet Tryz.prog Rows.keyserviceFollowsRow.laid W:=h
 have h2:=h.tail.tail
 have hT:Lib.TabIs Tryz.prog W "internal/strconv.uint64pow10" .u64 [1,10,100,1000,10000,100000,1000000,10000000,100000000,1000000000,10000000000,100000000000,1000000000000,10000000000000,100000000000000,1000000000000000,10000000000000000,100000000000000000,1000000000000000000,10000000000000000000]:=
  Lib.tabIs_of_head (g:=3) (t:=231) (e:=203) (n:=20) (by kernel_rfl) (by kernel_rfl) (by kernel_rfl) (by kernel_rfl) (by kernel_rfl) (by kernel_rfl) h2
 have h4:=h2.tail.tail
 obtain ⟨a1,s1,v1, -⟩:=laid_sentinel (g:=2) (ti:=136) h4 (by kernel_rfl) (by kernel_rfl) Tryz.underlying136 ZlU Tryz.underlying238 Tryz.underlying240 rfl rfl Tryz.underlying9 (by kernel_rfl) (by kernel_rfl)
 obtain ⟨a2,s2,v2, -⟩:=laid_sentinel (g:=1) (ti:=136) h4.tail (by kernel_rfl) (by kernel_rfl) Tryz.underlying136 ZlU Tryz.underlying238 Tryz.underlying240 rfl rfl Tryz.underlying9 (by kernel_rfl) (by kernel_rfl)
 refine ⟨fun k cs' hk=>?_,fun h=>by simp [wG] at h,fun k hk=>?_⟩
 · simp only [E0] at hk
   split at hk
   · rename_i hb
     obtain rfl:=Nat.eq_of_beq_eq_true hb
     cases hk
     refine .fptr ZcY 0 3 0 (fun j=>(W.cell? ⟨3,j,none⟩).getD undef) (fun j hj=>?_) (fun j hj=>?_)
     · have hl : j < 20 := by simpa [ZcY] using hj
       show wS W 3 (0+j)=_
       simp only [wS,Nat.zero_add]
       rw [hT.cell (by kernel_rfl) j (by simpa using hl)]
       rfl
     · have hl : j < 20 := by simpa [ZcY] using hj
       rw [hT.cell (by kernel_rfl) j (by simpa using hl)]
       match j,hl with
       | 0,_|1,_|2,_|3,_|4,_|5,_|6,_|7,_|8,_|9,_|10,_|11,_|12,_|13,_|14,_|15,_|16,_|17,_|18,_|19,_=>exact .int _ _
       | n+20,h=>exact absurd h (by omega)
   · cases hk
 · have hk : k = 1 ∨ k = 2 := by
     simp only [E0,List.any_cons,List.any_nil,Bool.or_false,Bool.or_eq_true] at hk
     rcases hk with e|e
     · exact .inl (Nat.eq_of_beq_eq_true e)
     · exact .inr (Nat.eq_of_beq_eq_true e)
   rcases hk with rfl|rfl
   · have c:=World.var?_cell (show Tryz.prog.globalNamed "strconv.ErrSyntax" = some 1 by kernel_rfl) v2 0
     exact ⟨_,_,c⟩
   · have c:=World.var?_cell (show Tryz.prog.globalNamed "strconv.ErrRange" = some 2 by kernel_rfl) v1 0
     exact ⟨_,_,c⟩
