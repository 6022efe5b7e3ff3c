/-
  The token at the beginning of a text; lines, comments: the reference's text.
-/
import Derived.Test.YtgnklbkmfeafaaaGreatDoorTf
set_option maxHeartbeats 0
set_option maxRecDepth 100000
namespace Go.Vm
def UC:Zg→Nat
 | []=>0
 |c::r=>if Yr c=true then UC r+1 else 0
theorem ZdY:∀ s:Zg,UC s≤s.length
 | []=>Nat.le_refl _
 | c :: r => by
   have:=ZdY r
   simp only [UC,List.length_cons]
   split<;>omega
theorem ZbU:∀ {s:Zg},s.all Yr=true→UC s=s.length
 | [],_=>rfl
 | c :: r, h => by
   simp only [List.all_cons,Bool.and_eq_true] at h
   simp only [UC,if_pos h.1,ZbU h.2,List.length_cons]
end Go.Vm
namespace Go.Vm.Seat
open Go.Proofs
theorem Zhf (a b:Int):WL E0 .lss 5 (.int .u8 a) (.int .u8 b)=some (.bool (decide (a<b))):=rfl
theorem Zhg (a b:Int):WL E0 .gtr 5 (.int .u8 a) (.int .u8 b)=some (.bool (decide (b<a))):=rfl
theorem Zkd (s:Zg) (hs:s.length≤65536) (hne:1≤s.length):∃ (v:Zg) (n:Nat),n≤s.length∧∀ H,CallOk E0 Tryz.prog 120 [.str s] H (.tup [.str v,.int .i64 (n:Int)]) H:=by
 have key:∃ r H1,CallOk E0 Tryz.prog 120 [.str s] hNil r H1∧∃ (v:Zg) (n:Nat),n≤s.length∧r= .tup [.str v,.int .i64 (n:Int)]:=by
  refine YS (own:=fun _=>false) tOk fe120.ok ?_
  refine Wp.seq ?_
  repeat' first|refine Jk ?_|refine Js ?_|refine JA ?_|refine JS ?_|refine JX ?_|refine Ji ?_|(apply qCv;rfl;rfl;rfl;assumption;exact IsV.any _)|refine Jl ?_|refine Jt ?_|refine Jb ?_ ?_|refine Jo ?_|intro hb
  refine Wp.while (fun m tm H=>∃ (i:Nat) (base:TM) (l:Zg) (v:PV) (lv:List Nat) (nt:Nat),i+m=s.length∧l.length≤i∧ByV l v lv nt∧tm=ovr base [(0,.str s),(4,v),(5,.int .i64 (i:Int))]∧H=⟨[],0,lv,nt⟩)
   (fun m tm H hI=>Wp.drop ?_) (s.length-1) _ _ ⟨1,_,[],_,_,_,by omega,by simp,.inl ⟨rfl,rfl,rfl,rfl⟩,Zf ⟨rfl,rfl,rfl,trivial⟩,rfl⟩
  obtain ⟨i,base,l,v,lv,nt,hi,hll,hB,rfl,rfl⟩:=hI
  have hlx:=Zn (i:Int) (s.length:Int)
  by_cases hlt:i<s.length
  · rw [decide_eq_true (by omega)] at hlx
    obtain ⟨d,hd⟩:∃ d,s[i]? = some d:=⟨s[i],by simp⟩
    have hj:=Vi hd
    have hii:=Zy (a:=(i:Int)) (b:=1) (by omega) (by omega)
    rw [show (i:Int)+1=((i+1:Nat):Int) by omega] at hii
    have hq:=X6 (d.toNat:Int) 34
    have hb:=X6 (d.toNat:Int) 92
    have hlo:=Zhf (d.toNat:Int) 32
    have hhi:=Zhg (d.toNat:Int) 126
    have hcv:=Zim hB
    have hU:=hB.under
    generalize decide ((d.toNat:Int)=34)=Q at hq
    generalize decide ((d.toNat:Int)=92)=S at hb
    cases Q with
    | true =>
      repeat' first|refine Jk ?_|refine Js ?_|refine JA ?_|refine JS ?_|refine JX ?_|refine Ji ?_|(apply qCv;rfl;rfl;rfl;assumption;exact IsV.any _)|refine Jl ?_|refine Jt ?_|refine Jb ?_ ?_|refine Jo ?_|intro hb
      exact RetR.ret rfl ⟨l,i+1,by omega,rfl⟩
    | false=>
    cases S with
    | true =>
      obtain ⟨c,n,hn,hc⟩:=Zkv (s.drop (i+1)) (by simp;omega)
      simp only [List.length_drop] at hn
      have hsl:=Zaf (s:=s) (k:=i+1) (by omega)
      have hn0:=Z6 (n:Int) 0
      by_cases c0:n=0
      · rw [decide_eq_true (by omega)] at hn0
        repeat' first|refine Jk ?_|refine Jc (hc _) ?_|refine Js ?_|refine JA ?_|refine JS ?_|refine JX ?_|refine Ji ?_|(apply qCv;rfl;rfl;rfl;assumption;exact IsV.any _)|refine Jl ?_|refine Jt ?_|refine Jb ?_ ?_|refine Jo ?_|intro hb
        exact RetR.ret rfl ⟨[],0,by omega,rfl⟩
      rw [decide_eq_false (by omega)] at hn0
      obtain ⟨v',lv',nt',hap,hB'⟩:=Zhc hB (by omega) c
      have hU':=hB'.under
      have hin:=Zy (a:=(i:Int)) (b:=(n:Int)) (by omega) (by omega)
      rw [show (i:Int)+(n:Int)=((i+n:Nat):Int) by omega] at hin
      have hin1:=Zy (a:=((i+n:Nat):Int)) (b:=1) (by omega) (by omega)
      rw [show ((i+n:Nat):Int)+1=((i+n+1:Nat):Int) by omega] at hin1
      clear hB
      repeat' first|refine Jk ?_|refine Jc (hc _) ?_|refine Js ?_|refine JA ?_|refine JS ?_|refine JX ?_|refine Ji ?_|(apply qCv;rfl;rfl;rfl;assumption;exact IsV.any _)|refine Jl ?_|refine Jt ?_|refine Jb ?_ ?_|refine Jo ?_|intro hb
      refine DropQ.go [(0,.str s),(4,v'),(5,.int .i64 ((i+n+1:Nat):Int))] ⟨rfl,rfl,rfl,trivial⟩ ?_ rfl rfl ?_
      · simp [under,hU']
      · exact LoopI.go (m-(n+1)) (by omega) ⟨i+n+1,_,l++ [c],v',lv',nt',by omega,by simp;omega,hB',rfl,rfl⟩
    | false =>
      generalize decide ((d.toNat:Int)<32)=A at hlo
      generalize decide (126<(d.toNat:Int))=B at hhi
      cases A with
      | true =>
        repeat' first|refine Jk ?_|refine Js ?_|refine JA ?_|refine JS ?_|refine JX ?_|refine Ji ?_|(apply qCv;rfl;rfl;rfl;assumption;exact IsV.any _)|refine Jl ?_|refine Jt ?_|refine Jb ?_ ?_|refine Jo ?_|intro hb
        exact RetR.ret rfl ⟨[],0,by omega,rfl⟩
      | false=>
      cases B with
      | true =>
        repeat' first|refine Jk ?_|refine Js ?_|refine JA ?_|refine JS ?_|refine JX ?_|refine Ji ?_|(apply qCv;rfl;rfl;rfl;assumption;exact IsV.any _)|refine Jl ?_|refine Jt ?_|refine Jb ?_ ?_|refine Jo ?_|intro hb
        exact RetR.ret rfl ⟨[],0,by omega,rfl⟩
      | false=>
      obtain ⟨v',lv',nt',hap,hB'⟩:=Zhc hB (by omega) d
      have hU':=hB'.under
      clear hB
      repeat' first|refine Jk ?_|refine Js ?_|refine JA ?_|refine JS ?_|refine JX ?_|refine Ji ?_|(apply qCv;rfl;rfl;rfl;assumption;exact IsV.any _)|refine Jl ?_|refine Jt ?_|refine Jb ?_ ?_|refine Jo ?_|intro hb
      refine DropQ.go [(0,.str s),(4,v'),(5,.int .i64 ((i+1:Nat):Int))] ⟨rfl,rfl,rfl,trivial⟩ ?_ rfl rfl ?_
      · simp [under,hU']
      · exact LoopI.go (m-1) (by omega) ⟨i+1,_,l++ [d],v',lv',nt',by omega,by simp;omega,hB',rfl,rfl⟩
  · rw [decide_eq_false (by omega)] at hlx
    repeat' first|refine Jk ?_|refine Js ?_|refine JA ?_|refine JS ?_|refine JX ?_|refine Ji ?_|(apply qCv;rfl;rfl;rfl;assumption;exact IsV.any _)|refine Jl ?_|refine Jt ?_|refine Jb ?_ ?_|refine Jo ?_|intro hb
    exact RetR.ret rfl ⟨[],0,by omega,rfl⟩
 obtain ⟨r,H1,k1,v,n,hn,rfl⟩:=key
 exact ⟨v,n,hn,fun H=>Z0 k1 rfl rfl H⟩
end Go.Vm.Seat
namespace Go.Vm
theorem VT (c:Int):decide (Xv c=2)=XX c:=by
 unfold Xv
 by_cases w:c=32∨c=9∨c=10∨c=13
 · rw [if_pos w]
   have:XX c=false:=by simp [XX];omega
   rw [this];rfl
 rw [if_neg w]
 cases h:XX c with
 |true=>rfl
 | false =>
   rw [if_neg (by simp)]
   split
   · rfl
   · split
     · rfl
     · split<;>rfl
theorem Zfg (c:Int):decide (Xv c=3)=Uz c:=by
 unfold Xv
 by_cases w:c=32∨c=9∨c=10∨c=13
 · rw [if_pos w]
   have:Uz c=false:=by simp [Uz];omega
   rw [this];rfl
 rw [if_neg w]
 cases h:XX c with
 | true =>
   rw [if_pos rfl]
   have:Uz c=false:=by
    simp [XX,Uz] at *
    omega
   rw [this];rfl
 | false =>
   rw [if_neg (by simp)]
   cases h2:Uz c with
   | true=>rfl
   | false =>
     rw [if_neg (by simp)]
     split
     · rfl
     · split<;>rfl
end Go.Vm
namespace Go.Vm.Seat
open Go.Proofs
theorem Zjg (s:Zg) (hs:s.length≤65536):∀ H,CallOk E0 Tryz.prog 118 [.str s] H (.str (s.take (UC s))) H:=by
 refine Jw tOk fe118.ok rfl ?_
 repeat' first|refine Jk ?_|refine JS ?_|refine JX ?_|refine Ji ?_|refine Jl ?_|refine Jt ?_|refine Jb ?_ ?_|refine Jo ?_|intro hb
 refine Wp.while (fun m tm H=>∃ (i:Nat) (base:TM),i+m=s.length∧UC s=i+UC (s.drop i)∧tm=ovr base [(0,.str s),(3,.int .i64 (i:Int))]∧H=⟨[],0,[],0⟩)
  (fun m tm H hI=>Wp.drop ?_) s.length _ _ ⟨0,_,by omega,by simp,Zf ⟨rfl,rfl,trivial⟩,rfl⟩
 obtain ⟨i,base,hi,hrun,rfl,rfl⟩:=hI
 have hlx:=Zn (i:Int) (s.length:Int)
 by_cases hlt:i<s.length
 · rw [decide_eq_true (by omega)] at hlx
   obtain ⟨d,hd⟩:∃ d,s[i]? = some d:=⟨s[i],by simp⟩
   have hj:=Vi hd
   have hdr:=ZA hd
   have hC:=c83 (d.toNat:Int)
   have k2:=Z6 (Xv (d.toNat:Int)) 2
   have k3:=Z6 (Xv (d.toNat:Int)) 3
   rw [VT] at k2
   rw [Zfg] at k3
   have h95:=X6 (d.toNat:Int) 95
   have h35:=X6 (d.toNat:Int) 35
   have hsl:=VE (s:=s) (k:=i) (by omega)
   have hrd:UC (s.drop i)=if Yr d=true then UC (s.drop (i+1))+1 else 0:=by rw [hdr];rfl
   rw [VO] at hrd
   have hii:=Zy (a:=(i:Int)) (b:=1) (by omega) (by omega)
   rw [show (i:Int)+1=((i+1:Nat):Int) by omega] at hii
   generalize XX (d.toNat:Int)=A at k2 hrd
   generalize Uz (d.toNat:Int)=B at k3 hrd
   generalize decide ((d.toNat:Int)=95)=C at h95 hrd
   generalize decide ((d.toNat:Int)=35)=D at h35 hrd
   generalize Xv (d.toNat:Int)=z at hC k2 k3
   clear hdr hd
   rcases or4 A B C D with rfl|⟨rfl,rfl⟩|⟨rfl,rfl,rfl⟩|⟨rfl,rfl,rfl,rfl⟩|⟨rfl,rfl,rfl,rfl⟩
   iterate 4
    repeat' first|refine Jk ?_|refine Jc (hC _) ?_|refine JS ?_|refine JX ?_|refine Ji ?_|refine Jl ?_|refine Jt ?_|refine Jb ?_ ?_|refine Jo ?_|intro hb
    simp at hrd
    refine DropQ.go [(0,.str s),(3,.int .i64 ((i+1:Nat):Int))] ⟨rfl,rfl,trivial⟩ rfl rfl rfl ?_
    exact LoopI.go (m-1) (by omega) ⟨i+1,_,by omega,by omega,rfl,rfl⟩
   simp at hrd
   rw [show UC s=i by omega]
   repeat' first|refine Jk ?_|refine Jc (hC _) ?_|refine JS ?_|refine JX ?_|refine Ji ?_|refine Jl ?_|refine Jt ?_|refine Jb ?_ ?_|refine Jo ?_|intro hb
   all_goals rfl
 · have e : i = s.length := by omega
   subst e
   rw [decide_eq_false (by omega)] at hlx
   rw [List.drop_length] at hrun
   have hsl:=VE (s:=s) (k:=s.length) (by omega)
   rw [show UC s=s.length by simp [UC] at hrun;omega]
   repeat' first|refine Jk ?_|refine JS ?_|refine JX ?_|refine Ji ?_|refine Jl ?_|refine Jt ?_|refine Jb ?_ ?_|refine Jo ?_|intro hb
   all_goals rfl
theorem ZjS (s : Zg) (hs : s.length ≤ 65536) (hne : 1 ≤ s.length) (h3 : ∀ d, s[0]? = some d → Xv (d.toNat : Int) = 3) :
  ∃ (n:Nat) (v:Int) (ok:Bool),n≤s.length∧(ok=true→1≤n)∧∀ H,CallOk E0 Tryz.prog 119 [.str s] H (.tup [.str (s.take n),.int .i64 v,.bool ok]) H:=by
 have key:∃ r H1,CallOk E0 Tryz.prog 119 [.str s] hNil r H1∧∃ (n:Nat) (v:Int) (ok:Bool),n≤s.length∧(ok=true→1≤n)∧r= .tup [.str (s.take n),.int .i64 v,.bool ok]:=by
  refine YS (own:=fun _=>false) tOk fe119.ok ?_
  refine Wp.seq ?_
  repeat' first|refine Jk ?_|refine JS ?_|refine JX ?_|refine Ji ?_|(apply qCv;rfl;rfl;rfl;assumption;exact IsV.any _)|refine Jl ?_|refine Jt ?_|refine Jb ?_ ?_|refine Jo ?_|intro hb
  refine Wp.while (fun m tm H=>∃ (i:Nat) (base:TM) (x:Int),i+m=s.length∧tm=ovr base [(0,.str s),(5,.int .i64 (i:Int)),(6,.int .i64 x)]∧H=⟨[],0,[],0⟩)
   (fun m tm H hI=>Wp.drop ?_) s.length _ _ ⟨0,_,_,by omega,Zf ⟨rfl,rfl,rfl,trivial⟩,rfl⟩
  obtain ⟨i,base,x,hi,rfl,rfl⟩:=hI
  have hlx:=Zn (i:Int) (s.length:Int)
  by_cases hlt:i<s.length
  · rw [decide_eq_true (by omega)] at hlx
    obtain ⟨d,hd⟩:∃ d,s[i]? = some d:=⟨s[i],by simp⟩
    have hj:=Vi hd
    have hC:=c83 (d.toNat:Int)
    have k3:=Z6 (Xv (d.toNat:Int)) 3
    have hsl:=VE (s:=s) (k:=i) (by omega)
    have hii:=Zy (a:=(i:Int)) (b:=1) (by omega) (by omega)
    rw [show (i:Int)+1=((i+1:Nat):Int) by omega] at hii
    by_cases c3:Xv (d.toNat:Int)=3
    · rw [decide_eq_true c3] at k3
      clear h3
      generalize Xv (d.toNat:Int)=z at hC k3
      repeat' first|refine Jk ?_|refine Jc (hC _) ?_|refine JS ?_|refine JX ?_|refine Ji ?_|(apply qCv;rfl;rfl;rfl;assumption;exact IsV.any _)|refine Jl ?_|refine Jt ?_|refine Jb ?_ ?_|refine Jo ?_|intro hb
      · exact RetR.ret rfl ⟨0,0,false,by omega,by simp,rfl⟩
      · refine DropQ.go [(0, .str s), (5, .int .i64 ((i + 1 : Nat) : Int)), (6, .int .i64 (IntKind.i64.wrap (IntKind.i64.wrap (10 * x) + IntKind.i64.wrap (IntKind.u8.wrap ((d.toNat : Int) - 48)))))] ⟨rfl, rfl, rfl, trivial⟩ rfl rfl rfl ?_
        exact LoopI.go (m-1) (by omega) ⟨i+1,_,_,by omega,rfl,rfl⟩
    · rw [decide_eq_false c3] at k3
      have hi1:1≤i:=by
       rcases Nat.eq_zero_or_pos i with rfl|h
       · exact absurd (h3 d hd) c3
       · exact h
      clear h3
      generalize Xv (d.toNat:Int)=z at hC k3
      repeat' first|refine Jk ?_|refine Jc (hC _) ?_|refine JS ?_|refine JX ?_|refine Ji ?_|(apply qCv;rfl;rfl;rfl;assumption;exact IsV.any _)|refine Jl ?_|refine Jt ?_|refine Jb ?_ ?_|refine Jo ?_|intro hb
      exact RetR.ret rfl ⟨i,x,true,by omega,fun _=>hi1,rfl⟩
  · have e : i = s.length := by omega
    subst e
    rw [decide_eq_false (by omega)] at hlx
    have hsl:=VE (s:=s) (k:=s.length) (by omega)
    repeat' first|refine Jk ?_|refine JS ?_|refine JX ?_|refine Ji ?_|(apply qCv;rfl;rfl;rfl;assumption;exact IsV.any _)|refine Jl ?_|refine Jt ?_|refine Jb ?_ ?_|refine Jo ?_|intro hb
    exact RetR.ret rfl ⟨s.length,x,true,by omega,fun _=>hne,rfl⟩
 obtain ⟨r,H1,k1,n,v,ok,hn,hok,rfl⟩:=key
 exact ⟨n,v,ok,hn,hok,fun H=>Z0 k1 rfl rfl H⟩
end Go.Vm.Seat
namespace Go.Vm
structure Tkn where
 kind:Int
 text:Zg
 num:Int
 str:Zg
 line:Int
def Tkn.cells (t:Tkn):List PV:=[.int .i64 t.kind,.str t.text,.int .i64 t.num,.str t.str,.int .i64 t.line]
def QK (l:List Tkn):List (List PV):=l.map Tkn.cells
theorem ZeA (l:List Tkn):(QK l).length=l.length:=by simp [QK]
theorem ZeJ (a b:List Tkn):QK (a++b)=QK a++QK b:=by simp [QK]
theorem Zgd (l:List Tkn):(QK l).all (fun c=>c.all Zp)=true:=by
 rw [QK,List.all_map,List.all_eq_true]
 intro x _
 rfl
theorem Zfe (l:List Tkn):noB (QK l)=true:=by
 rw [noB,QK,List.all_map,List.all_eq_true]
 intro x _
 rfl
end Go.Vm
namespace Go.Vm.Seat
open Go.Proofs
theorem Zki (s : Zg) (hs : s.length ≤ 65536) (hne : 1 ≤ s.length) (ln : Int) :
  ∃ (t:Tkn) (n:Nat) (e:Int),(e=0→1≤n∧n≤s.length)∧∀ H,CallOk E0 Tryz.prog 84 [.str s,.int .i64 ln] H (.tup [.agg t.cells,.int .i64 (n:Int),.int .i64 e]) H:=by
 have key:∃ r H1,CallOk E0 Tryz.prog 84 [.str s,.int .i64 ln] hNil r H1∧H1.ro=0∧∃ (t:Tkn) (n:Nat) (e:Int),(e=0→1≤n∧n≤s.length)∧r= .tup [.agg t.cells,.int .i64 (n:Int),.int .i64 e]:=by
  refine YS (own:=fun _=>false) tOk fe84.ok ?_
  refine Wp.seq ?_
  obtain ⟨d,hd⟩:∃ d,s[0]? = some d:=⟨s[0],by simp⟩
  have hj:=Vi hd
  have hC:=c83 (d.toNat:Int)
  have k2:=Z6 (Xv (d.toNat:Int)) 2
  have k3:=Z6 (Xv (d.toNat:Int)) 3
  have k4:=Z6 (Xv (d.toNat:Int)) 4
  have k5:=Z6 (Xv (d.toNat:Int)) 5
  by_cases c2:Xv (d.toNat:Int)=2
  · rw [decide_eq_true c2] at k2
    have hw1:1≤UC s:=by
     have:XX (d.toNat:Int)=true:=by rw [← VT,decide_eq_true c2]
     cases s with
     | nil=>simp at hne
     | cons a r =>
       have e:a=d:=by simpa using hd
       subst e
       have hp:Yr a=true:=by rw [VO,this];rfl
       simp only [UC,if_pos hp];omega
    have hwl:=ZdY s
    have hW:=Zjg s hs
    have hlt:(s.take (UC s)).length=UC s:=by rw [List.length_take];omega
    have hg:=Yv ((s.take (UC s)).length:Int) 24
    generalize Xv (d.toNat:Int)=z at hC k2 k3 k4 k5
    by_cases c24:24<UC s
    · rw [decide_eq_true (by omega)] at hg
      repeat' first|refine Jc (hC _) ?_|refine Jc (hW _) ?_|refine JS ?_|refine JX ?_|refine Ji ?_|refine Jl ?_|refine Jt ?_|refine Jb ?_ ?_|refine Jo ?_|intro hb
      exact RetR.ret rfl ⟨rfl,⟨0,[],0,[],0⟩,0,3,by simp,rfl⟩
    · rw [decide_eq_false (by omega)] at hg
      repeat' first|refine Jc (hC _) ?_|refine Jc (hW _) ?_|refine JS ?_|refine JX ?_|refine Ji ?_|refine Jl ?_|refine Jt ?_|refine Jb ?_ ?_|refine Jo ?_|intro hb
      exact RetR.ret rfl ⟨rfl,⟨1,s.take (UC s),0,[],ln⟩,(s.take (UC s)).length,0,by omega,rfl⟩
  rw [decide_eq_false c2] at k2
  by_cases c3:Xv (d.toNat:Int)=3
  · rw [decide_eq_true c3] at k3
    obtain ⟨n,v,ok,hn,hok,hN⟩:=ZjS s hs hne fun x hx=>by rw [hd] at hx;cases hx;exact c3
    have hlt:(s.take n).length=n:=by rw [List.length_take];omega
    generalize Xv (d.toNat:Int)=z at hC k2 k3 k4 k5
    cases ok with
    | false =>
      repeat' first|refine Jc (hC _) ?_|refine Jc (hN _) ?_|refine JS ?_|refine JX ?_|refine Ji ?_|refine Jl ?_|refine Jt ?_|refine Jb ?_ ?_|refine Jo ?_|intro hb
      exact RetR.ret rfl ⟨rfl,⟨0,[],0,[],0⟩,0,7,by simp,rfl⟩
    | true =>
      have:=hok rfl
      repeat' first|refine Jc (hC _) ?_|refine Jc (hN _) ?_|refine JS ?_|refine JX ?_|refine Ji ?_|refine Jl ?_|refine Jt ?_|refine Jb ?_ ?_|refine Jo ?_|intro hb
      exact RetR.ret rfl ⟨rfl,⟨2,[],v,[],ln⟩,(s.take n).length,0,by omega,rfl⟩
  rw [decide_eq_false c3] at k3
  by_cases c5:Xv (d.toNat:Int)=5
  · rw [decide_eq_true c5] at k5
    obtain ⟨v,n,hn,hL⟩:=Zkd s hs hne
    have hg:=Yv (n:Int) 0
    generalize Xv (d.toNat:Int)=z at hC k2 k3 k4 k5
    by_cases c0:0<n
    · rw [decide_eq_true (by omega)] at hg
      repeat' first|refine Jc (hC _) ?_|refine Jc (hL _) ?_|refine JS ?_|refine JX ?_|refine Ji ?_|refine Jl ?_|refine Jt ?_|refine Jb ?_ ?_|refine Jo ?_|intro hb
      exact RetR.ret rfl ⟨rfl,⟨3,[],0,v,ln⟩,n,0,by omega,rfl⟩
    · rw [decide_eq_false (by omega)] at hg
      repeat' first|refine Jc (hC _) ?_|refine Jc (hL _) ?_|refine JS ?_|refine JX ?_|refine Ji ?_|refine Jl ?_|refine Jt ?_|refine Jb ?_ ?_|refine Jo ?_|intro hb
      exact RetR.ret rfl ⟨rfl,⟨0,[],0,[],0⟩,0,2,by simp,rfl⟩
  rw [decide_eq_false c5] at k5
  have hsl:=VE (s:=s) (k:=1) hne
  by_cases c4:Xv (d.toNat:Int)=4
  · rw [decide_eq_true c4] at k4
    generalize Xv (d.toNat:Int)=z at hC k2 k3 k4 k5
    repeat' first|refine Jc (hC _) ?_|refine JS ?_|refine JX ?_|refine Ji ?_|refine Jl ?_|refine Jt ?_|refine Jb ?_ ?_|refine Jo ?_|intro hb
    exact RetR.ret rfl ⟨rfl,⟨4,s.take 1,0,[],ln⟩,1,0,by omega,rfl⟩
  · rw [decide_eq_false c4] at k4
    generalize Xv (d.toNat:Int)=z at hC k2 k3 k4 k5
    repeat' first|refine Jc (hC _) ?_|refine JS ?_|refine JX ?_|refine Ji ?_|refine Jl ?_|refine Jt ?_|refine Jb ?_ ?_|refine Jo ?_|intro hb
    exact RetR.ret rfl ⟨rfl,⟨0,[],0,[],0⟩,0,2,by simp,rfl⟩
 obtain ⟨r,H1,k1, -,t,n,e,hn,rfl⟩:=key
 exact ⟨t,n,e,hn,fun H=>Z0 k1 rfl rfl H⟩
theorem ZkJ (s : Zg) (hs : s.length ≤ 24) (d : UInt8) (hd : s[0]? = some d) (hl : XX (d.toNat : Int) = true) (ha : s.all Yr = true) (ln : Int) :
  ∀ H,CallOk E0 Tryz.prog 84 [.str s,.int .i64 ln] H (.tup [.agg [.int .i64 1,.str s,.int .i64 0,.str [],.int .i64 ln],.int .i64 (s.length:Int),.int .i64 0]) H:=by
 have hj:=Vi hd
 have hC:=c83 (d.toNat:Int)
 have k2:=Z6 (Xv (d.toNat:Int)) 2
 rw [VT,hl] at k2
 have hW:=Zjg s (by omega)
 rw [ZbU ha,List.take_length] at hW
 have hg:=Yv (s.length:Int) 24
 rw [decide_eq_false (by omega)] at hg
 generalize Xv (d.toNat:Int)=z at hC k2
 refine Jw tOk fe84.ok rfl ?_
 repeat' first|refine Jc (hC _) ?_|refine Jc (hW _) ?_|refine JS ?_|refine JX ?_|refine Ji ?_|refine Jl ?_|refine Jt ?_|refine Jb ?_ ?_|refine Jo ?_|intro hb
 all_goals rfl
