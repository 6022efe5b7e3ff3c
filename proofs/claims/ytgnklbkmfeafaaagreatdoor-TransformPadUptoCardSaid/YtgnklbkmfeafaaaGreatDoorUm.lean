/-
  The table of names; what is declared: the program's text.
-/
import Derived.Test.YtgnklbkmfeafaaaGreatDoorUl
set_option maxHeartbeats 0
set_option maxRecDepth 100000
namespace Go.Vm.Seat
open Go.Proofs
theorem VD {R:List Zg} {i:Nat} {x:Zg} (h:R[i]? = some x) (s:Zg):ZP (R.take (i+1)) s=(ZP (R.take i) s||decide (x=s)):=by
 rw [List.take_add_one,h]
 simp [ZP]
theorem upT (l:List (Zg×Int)) (n:Zg) (v:Int):∃ l',(∀ s,kyB s l'=(kyB s l||decide (n=s)))∧∀ (A B C D:Box) (e1:List Box),Z3 E0 94 (.map 3) (.str n) (.int .i64 v) ⟨A::B::C:: .map (mpN l)::D::e1,0,[],0⟩=some ⟨A::B::C:: .map (mpN l')::D::e1,0,[],0⟩:=by
 obtain ⟨l',h1,h2⟩:=Zi5 (E:=E0) (id:=3) (l:=l) (n:=n) (t:=94) (kt:=9) (e:=3) v rfl rfl rfl
 exact ⟨l',h1,fun A B C D e1=>h2 ⟨A::B::C:: .map (mpN l)::D::e1,0,[],0⟩ rfl (by simp)⟩
abbrev UT (rn:Bool) (R:List Zg):Box:= .cells 2 [[slV rn 1 (Zo R),.map 3]]
abbrev ZfW:Box:= .cells 2 [[.nils,.nilm]]
theorem Zb9 (rn:Bool) (R:List Zg):UC E0 96 [(0,slV rn 1 (Zo R)),(1,.map 3)]=some (.agg [slV rn 1 (Zo R),.map 3]):=by
 cases R with
 | nil => cases rn
          · rw [show Zo []= [] from rfl,Zu];rfl
          · rw [show Zo []= [] from rfl,Zq];rfl
 |cons a r=>rw [show Zo (a::r)= [.str a]::Zo r from rfl,ZC];rfl
theorem c62 {n:Na} (h:n.Sm) {B0:Box} (hB:ZS 5 B0=true):∃ l,(∀ s,kyB s l=ZP n.nms s)∧CallOk E0 Tryz.prog 62 [.agg n.cells] ⟨[B0],0,[],0⟩ (Zb8 n.rn n.roles 3) ⟨[B0,naB n.name n.rn n.roles n.fn n.fresh n.tn n.tags n.sn n.steps n.gn n.goals,UT n.rn n.roles,.map (mpN l),UT n.rn n.roles],0,[],0⟩:=by
 have hrl:=h.rl
 have hfl:=h.fl
 have htl:=h.tl
 clear h
 obtain ⟨nm,rn,rs,fn,fr,tn,ts,sn,ss,gn,gs⟩:=n
 simp only [Na.cells,Na.nms] at hrl hfl htl ⊢
 have e1:=ZA rs
 have e2:=Y9 fr
 have e3:=ZA ts
 have key:∃ r H1,CallOk E0 Tryz.prog 62 [.agg [.str nm,slV rn 1 (Zo rs),slV fn 3 (frC fr),slV tn 1 (Zo ts),slV sn 7 (spC ss),slV gn 5 (glC gs)]] ⟨[B0],0,[],0⟩ r H1∧∃ l,(∀ s,kyB s l=ZP (rs++(fr.map (·.name)++ts)) s)∧r=Zb8 rn rs 3∧H1=⟨[B0,naB nm rn rs fn fr tn ts sn ss gn gs,UT rn rs,.map (mpN l),UT rn rs],0,[],0⟩:=by
  refine YH (own:=fun _=>false) tOk fe62.ok ?_
  refine Wp.seq ?_
  have hbd:=Zb9 rn rs
  repeat' first|refine Ji ?_|(apply qBd;rfl;rfl;rfl;assumption;exact IsV.aggN)|refine JJ ?_|refine Jl ?_|refine Jx ?_|(apply qT (ty:=0);rfl;rfl;rfl)|(apply qF (ty:=0);rfl;rfl;rfl)|refine Jz ?_ ?_|refine Jo ?_|intro hb
  refine Wp.while (fun m tm H=>∃ (i:Nat) (base:TM) (l:List (Zg×Int)),i+m=rs.length∧(∀ s,kyB s l=ZP (rs.take i) s)∧tm=ovr base [(1,.ptr 1 6 0 0),(2,.ptr 2 2 0 0),(3,.ptr 4 2 0 0),(15,slV rn 1 (Zo rs)),(16,.int .i64 (rs.length:Int)),(17,.int .i64 (i:Int))]∧H=⟨[B0,naB nm rn rs fn fr tn ts sn ss gn gs,ZfW,.map (mpN l),UT rn rs],0,[],0⟩)
   (fun m tm H hI=>?_) rs.length _ _ ⟨0,_,[],by omega,by simp [kyB,ZP],Ze ⟨rfl,rfl,rfl,rfl,Zt (by rw [e1]),rfl,trivial⟩,rfl⟩
  obtain ⟨i,base,l,hi,hky,rfl,rfl⟩:=hI
  have hlx:=Zk (i:Int) (rs.length:Int)
  by_cases hlt:i<rs.length
  · rw [decide_eq_true (by omega)] at hlx
    obtain ⟨x,hx⟩:∃ x,rs[i]? = some x:=⟨rs[i],by simp⟩
    have hj:=Z7 hx
    have hii:=Zw (a:=(i:Int)) (b:=1) (by omega) (by omega)
    rw [show (i:Int)+1=((i+1:Nat):Int) by omega] at hii
    obtain ⟨l',hk',hup⟩:=upT l x 1
    have hup:=hup B0 (naB nm rn rs fn fr tn ts sn ss gn gs) ZfW (UT rn rs) []
    repeat' first|(apply qMu;rfl;rfl;rfl;rfl;assumption)|refine Ji ?_|refine JJ ?_|refine Jl ?_|refine Jx ?_|(apply qT (ty:=0);rfl;rfl;rfl)|(apply qF (ty:=0);rfl;rfl;rfl)|refine Jz ?_ ?_|refine Jo ?_|intro hb
    exact LoopI.go (m-1) (by omega) ⟨i+1,_,l',by omega,fun s=>by rw [hk',hky,VD hx],Ze ⟨rfl,rfl,rfl,rfl,rfl,rfl,trivial⟩,rfl⟩
  · have e : i = rs.length := by omega
    subst e
    rw [decide_eq_false (by omega)] at hlx
    rw [List.take_length] at hky
    repeat' first|refine Ji ?_|refine JJ ?_|refine Jl ?_|refine Jx ?_|(apply qT (ty:=0);rfl;rfl;rfl)|(apply qF (ty:=0);rfl;rfl;rfl)|refine Jz ?_ ?_|refine Jo ?_|intro hb
    clear hlx hi hlt
    refine Wp.while (fun m tm H=>∃ (i:Nat) (base:TM) (l:List (Zg×Int)),i+m=fr.length∧(∀ s,kyB s l=(ZP rs s||ZP ((fr.map (·.name)).take i) s))∧tm=ovr base [(1,.ptr 1 6 0 0),(2,.ptr 2 2 0 0),(3,.ptr 4 2 0 0),(26,slV fn 3 (frC fr)),(27,.int .i64 (fr.length:Int)),(28,.int .i64 (i:Int))]∧H=⟨[B0,naB nm rn rs fn fr tn ts sn ss gn gs,ZfW,.map (mpN l),UT rn rs],0,[],0⟩)
     (fun m tm H hI=>Wp.drop ?_) fr.length _ _ ⟨0,_,l,by omega,fun s=>by rw [hky];simp [ZP],Ze ⟨rfl,rfl,rfl,rfl,Zt (by rw [e2]),rfl,trivial⟩,rfl⟩
    clear hky
    obtain ⟨i,base,l,hi,hky,rfl,rfl⟩:=hI
    have hlx:=Zk (i:Int) (fr.length:Int)
    by_cases hlt:i<fr.length
    · rw [decide_eq_true (by omega)] at hlx
      obtain ⟨x,hx⟩:∃ x,fr[i]? = some x:=⟨fr[i],by simp⟩
      have hj:=XV hx
      have hii:=Zw (a:=(i:Int)) (b:=1) (by omega) (by omega)
      rw [show (i:Int)+1=((i+1:Nat):Int) by omega] at hii
      obtain ⟨l',hk',hup⟩:=upT l x.name x.sort
      have hup:=hup B0 (naB nm rn rs fn fr tn ts sn ss gn gs) ZfW (UT rn rs) [.cells 3 [[.str x.role,.str x.name,.int .i64 x.sort]]]
      have hx2:(fr.map (·.name))[i]? = some x.name:=by simp [hx]
      repeat' first|(apply qMu;rfl;rfl;rfl;rfl;assumption)|refine Ji ?_|refine JJ ?_|refine Jl ?_|refine Jx ?_|(apply qT (ty:=0);rfl;rfl;rfl)|(apply qF (ty:=0);rfl;rfl;rfl)|refine Jz ?_ ?_|refine Jo ?_|intro hb
      refine DropQ.go [(1,.ptr 1 6 0 0),(2,.ptr 2 2 0 0),(3,.ptr 4 2 0 0),(26,slV fn 3 (frC fr)),(27,.int .i64 (fr.length:Int)),(28,.int .i64 ((i+1:Nat):Int))] ⟨rfl,rfl,rfl,rfl,rfl,rfl,trivial⟩ ?_ rfl ?_ ?_
      · simp [Zf,under]
      · show (ZS 5 B0 && (ZS 5 (naB nm rn rs fn fr tn ts sn ss gn gs) && (ZS 5 ZfW && (ZS 5 (.map (mpN l')) && (ZS 5 (UT rn rs) && true))))) = true
        rw [hB,Ws,Xz,show ZS 5 (UT rn rs)=true by simp [ZS,Zp,Zf,under]]
        rfl
      · exact LoopI.go (m-1) (by omega) ⟨i+1,_,l',by omega,fun s=>by rw [hk',hky,VD hx2,Bool.or_assoc],rfl,rfl⟩
    · have e : i = fr.length := by omega
      subst e
      rw [decide_eq_false (by omega)] at hlx
      rw [List.take_of_length_le (by simp)] at hky
      repeat' first|refine Ji ?_|refine JJ ?_|refine Jl ?_|refine Jx ?_|(apply qT (ty:=0);rfl;rfl;rfl)|(apply qF (ty:=0);rfl;rfl;rfl)|refine Jz ?_ ?_|refine Jo ?_|intro hb
      clear hlx hi hlt
      refine Wp.while (fun m tm H=>∃ (i:Nat) (base:TM) (l:List (Zg×Int)),i+m=ts.length∧(∀ s,kyB s l=(ZP rs s||(ZP (fr.map (·.name)) s||ZP (ts.take i) s)))∧tm=ovr base [(2,.ptr 2 2 0 0),(3,.ptr 4 2 0 0),(40,slV tn 1 (Zo ts)),(41,.int .i64 (ts.length:Int)),(42,.int .i64 (i:Int))]∧H=⟨[B0,naB nm rn rs fn fr tn ts sn ss gn gs,ZfW,.map (mpN l),UT rn rs],0,[],0⟩)
       (fun m tm H hI=>?_) ts.length _ _ ⟨0,_,l,by omega,fun s=>by rw [hky];simp [ZP],Ze ⟨rfl,rfl,rfl,Zt (by rw [e3]),rfl,trivial⟩,rfl⟩
      clear hky
      obtain ⟨i,base,l,hi,hky,rfl,rfl⟩:=hI
      have hlx:=Zk (i:Int) (ts.length:Int)
      by_cases hlt:i<ts.length
      · rw [decide_eq_true (by omega)] at hlx
        obtain ⟨x,hx⟩:∃ x,ts[i]? = some x:=⟨ts[i],by simp⟩
        have hj:=Z7 hx
        have hii:=Zw (a:=(i:Int)) (b:=1) (by omega) (by omega)
        rw [show (i:Int)+1=((i+1:Nat):Int) by omega] at hii
        obtain ⟨l',hk',hup⟩:=upT l x 5
        have hup:=hup B0 (naB nm rn rs fn fr tn ts sn ss gn gs) ZfW (UT rn rs) []
        repeat' first|(apply qMu;rfl;rfl;rfl;rfl;assumption)|refine Ji ?_|refine JJ ?_|refine Jl ?_|refine Jx ?_|(apply qT (ty:=0);rfl;rfl;rfl)|(apply qF (ty:=0);rfl;rfl;rfl)|refine Jz ?_ ?_|refine Jo ?_|intro hb
        exact LoopI.go (m-1) (by omega) ⟨i+1,_,l',by omega,fun s=>by rw [hk',hky,VD hx,Bool.or_assoc,Bool.or_assoc],Ze ⟨rfl,rfl,rfl,rfl,rfl,trivial⟩,rfl⟩
      · have e : i = ts.length := by omega
        subst e
        rw [decide_eq_false (by omega)] at hlx
        rw [List.take_length] at hky
        repeat' first|refine Ji ?_|refine JJ ?_|refine Jl ?_|refine Jx ?_|(apply qT (ty:=0);rfl;rfl;rfl)|(apply qF (ty:=0);rfl;rfl;rfl)|refine Jz ?_ ?_|refine Jo ?_|intro hb
        exact RetR.ret rfl ⟨l,fun s=>by rw [hky,XH,XH],rfl,rfl⟩
 obtain ⟨r,H1,k1,l,hl,rfl,rfl⟩:=key
 exact ⟨l,hl,k1⟩
