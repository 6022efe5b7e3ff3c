/-
  strconv.Itoa at small numbers, and credential.toNumber.
-/
import Derived.Test.YtpgfeijkfmgnjaaGreatDoorCv
import Derived.Lib.Hide
import Derived.BigGuard
set_option maxHeartbeats 0
set_option maxRecDepth 100000
namespace Go.Vm.Seat
variable {s:Bs} {l:List Bs}
open Go.Proofs
theorem ZsC (hs:s.length≤100000):∀ H,CallOk E0 Tryz.prog 133 [.str s] H (.bool (ZB s)) H:=by
 have hc:=ZsG hs
 unfold XQ at hc
 unfold ZB
 cases h:(ZG s).all Yx with
 | false =>
   rw [h] at hc
   rw [Bool.and_false]
   have hc:∀ H,CallOk E0 Tryz.prog 172 [.str s] H (.tup [.nils,.bool false]) H:=hc
   refine Jw tOk fe133.ok rfl ?_
   repeat' first|refine Jc (hc _) ?_|refine Jt ?_|refine Jo ?_|fail
   all_goals rfl
 | true =>
   rw [h] at hc
   rw [Bool.and_true]
   generalize decide ((ZG s).length≤4)=B at hc
   have hc:∀ H,CallOk E0 Tryz.prog 172 [.str s] H (.tup [.sl .none 1 (ZM (ZG s)),.bool B]) H:=hc
   refine Jw tOk fe133.ok rfl ?_
   repeat' first|refine Jc (hc _) ?_|refine Jt ?_|refine Jb ?_ ?_|refine Jo ?_|intro hb
   all_goals first|rfl|(rw [hb];rfl)|(cases B<;>first|rfl|cases hb)
theorem Zlj {i:Nat} {a:Bs} (h:l[i]? = some a):Xi (l.drop i)=(!ZB a||Xi (l.drop (i+1))):=by
 rw [Z0 h];rfl
theorem Zsp (hl:∀ s,s∈l→s.length≤100000) (hlen:l.length≤100000) (b:Bool):∀ H,CallOk E0 Tryz.prog 136 [slV b 1 (Y2 l)] H (.bool (!Xi l)) H:=by
 refine Jw tOk fe136.ok rfl ?_
 repeat' first|refine Jt ?_|refine Jo ?_|fail
 refine Wp.while (fun m tm H=>∃ (i:Nat) (base:TM),i+m=l.length∧Xi l=Xi (l.drop i)∧tm=ovr base [(0,slV b 1 (Y2 l)),(3,.int .i64 (i:Int))]∧H=⟨[],0,[],0⟩)
  (fun m tm H hI=>?_) l.length _ _ ⟨0,_,by omega,by simp,Zi ⟨rfl,rfl,trivial⟩,rfl⟩
 obtain ⟨i,base,hi,hgo,rfl,rfl⟩:=hI
 rw [hgo]
 by_cases hlt:i<l.length
 · obtain ⟨a, ha⟩ : ∃ a, l[i]? = some a := ⟨l[i], by simp⟩
   have hj:=Q4 ha
   have hc:=ZsC (hl a (List.mem_of_getElem? ha))
   rw [Zlj ha]
   generalize ZB a=d at hc
   repeat' first|refine Jc (hc _) ?_|refine Jl ?_|refine Jx ?_|refine Jt ?_|refine Jb ?_ ?_|refine Jo ?_|intro hb
   · have h1 : d = false := by simpa using hb
     rw [h1]
     rfl
   · have h1 : d = true := by simpa using hb
     rw [h1]
     exact LoopI.go (m-1) (by omega) ⟨i+1,_,by omega,rfl,Zi ⟨rfl,Zj (Zg (n:=i+1) (by omega)),trivial⟩,rfl⟩
   · exfalso;rw [XP] at hb;simp at hb;omega
 · have e : i = l.length := by omega
   subst e
   repeat' first|refine Jl ?_|refine Jt ?_|refine Jb ?_ ?_|refine Jo ?_|intro hb
   · exfalso;rw [XP] at hb;simp at hb
   · rw [List.drop_length];rfl
theorem ZnW {k:Int} {nm:List UInt8} {s:Int} {b:Bool} {kz:List Tm} (h:(Tm.mk k nm s b kz).key=0):isF k nm [112,107]=(Tm.mk k nm s b kz).isB [112,107] 1:=by
 show isF k nm [112,107]=(decide (k=3)&&((nm== [112,107])&&decide (kz.length=1)))
 by_cases c1:k=3
 · by_cases c2 : nm = [112, 107]
   · subst c1 c2
     have hth:(Tm.mk 3 [112,107] s b kz).th=0:=by
      unfold Tm.key at h
      by_cases d1:(Tm.mk 3 [112,107] s b kz).valid≠0
      · rw [if_pos d1] at h;exact absurd h d1
      · rw [if_neg d1] at h
        by_cases d2:(Tm.mk 3 [112,107] s b kz).th≠0
        · rw [if_pos d2] at h;exact absurd h d2
        · simpa using d2
     simp only [Tm.th] at hth
     have hsy:Qw [112,107]=⟨[112,107],1,1,1⟩:=rfl
     rw [hsy] at hth
     simp only [ne_eq,not_true_eq_false,if_false,show ¬ ((1:Int)=0) by omega] at hth
     have hl:kz.length=1:=by
      by_cases d3:(kz.length:Int)<1∨1<(kz.length:Int)
      · rw [if_pos d3] at hth;exact absurd hth (by omega)
      · omega
     rw [hl]
     rfl
   · have c3 : (nm == [112, 107]) = false := by simpa using c2
     simp only [isF,c3,Bool.false_and,Bool.and_false]
 · simp [isF,c1]
theorem c93 (x : Cred) (h1 : x.sub.length ≤ 100000) (hk : x.key.Ok) (hks : x.key.size ≤ 90000) (hp : ∀ s, s ∈ x.per → s.length ≤ 100000) (he : ∀ s, s ∈ x.exc → s.length ≤ 100000) (hpl : x.per.length ≤ 100000) (hel : x.exc.length ≤ 100000) :
  ∀ H,CallOk E0 Tryz.prog 93 [.agg x.cells] H (.int .i64 x.valid) H:=by
 obtain ⟨sub,key,iss,pn,per,en,exc,ser,fr,till⟩:=x
 simp only [] at h1 hk hks hp he hpl hel
 have c1:=ZsC h1
 have c2:=ZsA hk (by omega)
 have c4:=Zsp hp hpl pn
 have c5:=Zsp he hel en
 obtain ⟨V,hV⟩:∃ V,V=(Cred.mk sub key iss pn per en exc ser fr till).valid:=⟨_,rfl⟩
 rw [← hV]
 simp only [Cred.valid] at hV
 generalize ZB sub=d at c1 hV
 generalize Xi per=w1 at c4 hV
 generalize Xi exc=w2 at c5 hV
 obtain ⟨l,hl⟩:∃ l,l= [ser,fr,till]:=⟨_,rfl⟩
 rw [← hl] at hV
 obtain ⟨k,nm,s,b,kz⟩:=key
 have hkey:=ZnW (k:=k) (nm:=nm) (s:=s) (b:=b) (kz:=kz)
 have c3:=Zn8 k nm s b kz [112,107]
 generalize (Tm.mk k nm s b kz).key=e at c2 hV hkey
 generalize (Tm.mk k nm s b kz).isB [112,107] 1=i3 at hV hkey
 generalize isF k nm [112,107]=i4 at c3 hkey
 simp only [Tm.cells] at c2 c3
 simp only [Cred.cells,Tm.cells,List.cons_append,List.nil_append]
 refine Jw tOk fe93.ok rfl ?_
 repeat' first|refine Jk ?_|(apply qCl;rfl;rfl;rfl;rfl;first|exact c1 _|exact c2 _|exact c3 _|exact c4 _|exact c5 _)|refine Js ?_|refine Jl ?_|refine Jt ?_|refine Jb ?_ ?_|refine Jo ?_|refine Jh ?_|(apply Wp.draw tOk follows;kernel_rfl)|intro hb
 all_goals
  have hwr:IntKind.i64.wrap ((per.length:Int)+(exc.length:Int))=(per.length:Int)+(exc.length:Int):=IntWalk.i64_in _ (by omega)
  clear c1 c2 c3 c4 c5 h1 hp he hk hks
 all_goals first
  | (refine Zj ?_
     simp only [XP,hwr,Bool.not_eq_true',Bool.not_eq_false',Bool.not_not,bne_iff_ne,bne_eq_false_iff_eq,decide_eq_true_eq,decide_eq_false_iff_not,ne_eq] at *
     subst hV
     (repeat' split)<;>first|rfl|omega|(exfalso;simp_all;done)|(simp_all;done)|(exfalso;simp_all;omega))
  | skip
 all_goals
  have hV:V=if l.any WB=true∨till<fr then 7 else 0:=by
   simp only [XP,hwr,Bool.not_eq_false',Bool.not_not,bne_eq_false_iff_eq,decide_eq_false_iff_not,ne_eq] at *
   rw [hV]
   (repeat' split)<;>first|rfl|omega|(exfalso;simp_all;done)|(simp_all;done)|(exfalso;simp_all;omega)
  subst hl
  clear hkey hwr
  rename_i hV0 _ _
  refine Wp.while (fun m tm H => ∃ (i : Nat) (base : TM), i + m = 3 ∧ [ser, fr, till].any WB = ([ser, fr, till].drop i).any WB ∧ tm = ovr base [(1, .ptr 0 11 0 0), (6, .sl .full 1 [[.int .i64 ser], [.int .i64 fr], [.int .i64 till]]), (7, .int .i64 (i : Int))] ∧
    H=⟨[.cells 11 [[.str sub,.int .i64 k,.str nm,.int .i64 s,slV b 4 (Za kz),.bool iss,slV pn 1 (Y2 per),slV en 1 (Y2 exc),.int .i64 ser,.int .i64 fr,.int .i64 till]]],0,[],0⟩)
   (fun m tm H hI=>?_) 3 _ _ ⟨0,_,by omega,rfl,Zi ⟨rfl,rfl,rfl,trivial⟩,rfl⟩
  obtain ⟨i,base,hi,hgo,rfl,rfl⟩:=hI
  rw [hgo] at hV
  clear hV0
  rcases (show i=0∨i=1∨i=2∨i=3 by omega) with rfl|rfl|rfl|rfl
  all_goals
   repeat' first|refine Jk ?_|refine Jt ?_|refine Jb ?_ ?_|refine Jo ?_|intro hb
  all_goals first
   | (exfalso;simp at hb;done)
   | (refine Zj ?_
      rw [hV,if_pos]
      clear hV hgo
      simp [WB] at hb ⊢
      omega)
   | (refine Zj ?_
      rw [hV,if_neg]
      clear hV hgo
      simp at hb ⊢
      omega)
   | (refine LoopI.go (m - 1) (by omega) ⟨1, _, by omega, ?_, Zi ⟨rfl, rfl, rfl, trivial⟩, rfl⟩
      rw [hgo]
      have h7:WB ser=false:=by
       have h8:= ‹decide (ser<0)=false›
       have h9:= ‹decide (9999<ser)=false›
       simp only [WB,h8,h9,Bool.or_self]
      show (WB ser||_)=_
      rw [h7]
      rfl)
   | (refine LoopI.go (m - 1) (by omega) ⟨2, _, by omega, ?_, Zi ⟨rfl, rfl, rfl, trivial⟩, rfl⟩
      rw [hgo]
      have h7:WB fr=false:=by
       have h8:= ‹decide (fr<0)=false›
       have h9:= ‹decide (9999<fr)=false›
       simp only [WB,h8,h9,Bool.or_self]
      show (WB fr||_)=_
      rw [h7]
      rfl)
   | (refine LoopI.go (m - 1) (by omega) ⟨3, _, by omega, ?_, Zi ⟨rfl, rfl, rfl, trivial⟩, rfl⟩
      rw [hgo]
      have h7:WB till=false:=by
       have h8:= ‹decide (till<0)=false›
       have h9:= ‹decide (9999<till)=false›
       simp only [WB,h8,h9,Bool.or_self]
      show (WB till||_)=_
      rw [h7]
      rfl)
   | trace_state
theorem Znu (nm:Bs) (s:Int):∀ H,CallOk E0 Tryz.prog 141 [.str nm,.int .i64 s] H (.agg (Yn nm s).cells) H:=by
 rw [ZE]
 refine Jw tOk fe141.ok rfl ?_
 repeat' first|refine Jo ?_|fail
 all_goals rfl
theorem c39 (nm:Bs) (s:Int):∀ H,CallOk E0 Tryz.prog 39 [.str nm,.int .i64 s] H (.agg (Yn nm s).cells) H:=by
 rw [ZE]
 refine Jw tOk fe39.ok rfl ?_
 repeat' first|refine Jo ?_|fail
 all_goals rfl
theorem Zpv (nm:Bs):∀ H,CallOk E0 Tryz.prog 227 [.str nm] H (.agg (Yn nm 4).cells) H:=by
 have hc:=c39 nm 4
 rw [ZE] at hc ⊢
 refine Jw tOk fe227.ok rfl ?_
 repeat' first|refine Jc (hc _) ?_|refine Jo ?_|fail
 all_goals rfl
theorem Zq7:∀ H,CallOk E0 Tryz.prog 259 [] H (.agg (Yn [101,110,100] 5).cells) H:=by
 have hc:=c39 [101,110,100] 5
 rw [ZE] at hc ⊢
 refine Jw tOk fe259.ok rfl ?_
 repeat' first|refine Jc (hc _) ?_|refine Jo ?_|fail
 all_goals rfl
theorem ZmA {p q:PV} {n:Nat} {H:Heap} (h:frz1 p=some q):frzC n H p=some q:=by
 cases p<;>first|exact h|cases h
theorem Zsg {l:List Tm} (hne:l≠ []) (hlen:l.length≤100000) (b:Bool):∀ H,CallOk E0 Tryz.prog 148 [slV b 4 (Za l)] H (.agg (XN l).cells) H:=by
 have hpos:0<l.length:=List.length_pos_iff.2 hne
 obtain ⟨z,hz⟩:∃ z,l[l.length-1]? = some z:=⟨l[l.length-1]'(by omega),by simp⟩
 have hz0:XN (l.drop (l.length-1))=z:=by
  rw [Z0 hz,show l.length-1+1=l.length by omega,List.drop_length]
  rfl
 have hw1:IntKind.i64.wrap (((Za l).length:Int)-1)=((l.length-1:Nat):Int):=by
  rw [Zb,show (l.length:Int)-1=((l.length-1:Nat):Int) by omega]
  exact IntWalk.i64_in _ (by omega)
 have hw2:IntKind.i64.wrap (((Za l).length:Int)-2)=(l.length:Int)-2:=by
  rw [Zb];exact IntWalk.i64_in _ (by omega)
 have hi0:Zp E0 24 (slV b 4 (Za l)) (.int .i64 (IntKind.i64.wrap (((Za l).length:Int)-1)))=some (.fptr z.cells 0):=by rw [hw1];exact Zpr hz
 have hfr:frz3 0 hNil (.agg (XN l).cells)=some (.agg (XN l).cells):=by
  generalize XN l=t
  obtain ⟨k,nm,s,tb,kz⟩:=t
  exact Z6 _ _ _ _ _ _ _
 refine Jw tOk fe148.ok hfr ?_
 obtain ⟨k,nm,s,tb,kz⟩:=z
 simp only [Tm.cells] at hi0
 repeat' first|refine JJ ?_|refine Jl ?_|refine Jo ?_|fail
 refine Wp.while (fun m tm H => ∃ (base : TM) (k : Int) (nm : List UInt8) (s : Int) (kv : PV) (b' : Bool) (kz : List Tm), m + 1 ≤ l.length ∧ XN (l.drop m) = .mk k nm s b' kz ∧ frz1 kv = some (slV b' 4 (Za kz)) ∧ Z7 kv = true ∧
   tm=ovr base [(0,slV b 4 (Za l)),(2,.ptr 0 4 0 0),(3,.ptr 1 4 0 0),(4,.int .i64 ((m:Int)-1))]∧H=⟨[.cells 4 [[.int .i64 0,.str [],.int .i64 0,.nils]],.cells 4 [[.int .i64 k,.str nm,.int .i64 s,kv]]],0,[],0⟩)
  (fun m tm H hI=>?_) (l.length-1) _ _ ⟨_,k,nm,s,_,tb,kz,by omega,hz0,ZD _ _ _,Ya _ _ _,Zi ⟨rfl,rfl,rfl,Zj (by rw [hw2];omega),trivial⟩,rfl⟩
 clear hi0 hw1 hw2 hz hz0 hfr
 obtain ⟨base,k,nm,s,kv,b',kz,hm,htup,hkv,hkc,rfl,rfl⟩:=hI
 have hco:[PV.int .i64 k,.str nm,.int .i64 s,kv].all Z7=true:=by simp only [List.all_cons,List.all_nil,hkc];rfl
 have hfz:XY [PV.int .i64 k,.str nm,.int .i64 s,kv]=some [.int .i64 k,.str nm,.int .i64 s,slV b' 4 (Za kz)]:=by simp only [XY,hkv];rfl
 cases m with
 | zero =>
   repeat' first|refine Jt ?_|refine Jo ?_|fail
   rw [show XN l=XN (l.drop 0) from rfl,htup]
   show frz3 _ _ (.agg _)=_
   rw [Ws]
   simp only [Qf,ZmA hkv]
   rfl
 | succ m =>
   obtain ⟨a,ha⟩:∃ a,l[m]? = some a:=⟨l[m]'(by omega),by simp⟩
   have hnext:=ZiD ha hm
   have hi1:Zp E0 24 (slV b 4 (Za l)) (.int .i64 (((m+1:Nat):Int)-1))=some (.fptr a.cells 0):=by
    rw [show ((m+1:Nat):Int)-1=(m:Int) by omega];exact Zpr ha
   obtain ⟨k',nm',s',b2,kz'⟩:=a
   simp only [Tm.cells] at hi1
   repeat' first|refine Jb ?_ ?_|refine Jo ?_|refine JK ?_|refine Jh ?_|(apply Wp.drawS tOk follows;kernel_rfl;rfl)|intro hb
   · apply Zvz
     · rfl
     · rfl
     · rfl
     · rfl
     · show Xm [[.int .i64 k', .str nm', .int .i64 s', slV b2 4 (Za kz')], [.int .i64 k, .str nm, .int .i64 s, kv]] = some [[.int .i64 k', .str nm', .int .i64 s', slV b2 4 (Za kz')], [.int .i64 k, .str nm, .int .i64 s, slV b' 4 (Za kz)]]
       simp only [Xm,hfz,VF]
     · rfl
     repeat' first|refine Jo ?_|refine Jh ?_|fail
     refine LoopI.go m (by omega) ⟨_,3,[112,97,105,114],0,.sl .full 4 [[.int .i64 k',.str nm',.int .i64 s',slV b2 4 (Za kz')],[.int .i64 k,.str nm,.int .i64 s,slV b' 4 (Za kz)]],true,[.mk k' nm' s' b2 kz',.mk k nm s b' kz],by omega,by rw [hnext,htup];rfl,?_,rfl,Zi ⟨rfl,rfl,rfl,Zj ?_,trivial⟩,rfl⟩
     · rw [show slV true 4 (Za [Tm.mk k' nm' s' b2 kz', Tm.mk k nm s b' kz]) = .sl .none 4 [[.int .i64 k', .str nm', .int .i64 s', slV b2 4 (Za kz')], [.int .i64 k, .str nm, .int .i64 s, slV b' 4 (Za kz)]] from Zw _ _ _ _]
       rfl
     · rw [show ((m + 1 : Nat) : Int) - 1 - 1 = (m : Int) - 1 by omega]
       exact IntWalk.i64_in _ (by omega)
   · exfalso;simp at hb<;>omega
theorem YP (n:Nat) (t:Tm):under n (.agg t.cells)=true:=by
 obtain ⟨k,nm,s,b,kz⟩:=t
 simp [Tm.cells,under,ZI,Zl]
theorem Zz (m:Nat) (H:Heap) (t:Tm):frz3 m H (.agg t.cells)=some (.agg t.cells):=by
 obtain ⟨k,nm,s,b,kz⟩:=t
 exact Z6 _ _ _ _ _ _ _
theorem ZrW {l:List Tm} {out:PV} {lv:List Nat} {nt:Nat} (hA:ApV true 4 (Za l) out lv nt) (hlen:l.length≤10000):∃ lv' nt',∀ bx,CallOk E0 Tryz.prog 198 [out] ⟨bx,0,lv,nt⟩ (.agg (XN (l++ [endT])).cells) ⟨bx,0,lv',nt'⟩:=by
 obtain ⟨out',lv',nt',hap,hA', -⟩:=hA.app YA (.sl .full 4 (Za [endT])) (Zs _) (ZZ (by simp only [Zb,List.length_cons,List.length_nil];omega) (by decide)) (ZC _)
 rw [← Zo] at hA'
 rw [ZQ,show endT=Yn [101,110,100] 5 from rfl,ZE] at hap
 refine ⟨lv',nt',fun bx=>?_⟩
 have hc:∀ H,CallOk E0 Tryz.prog 148 [out'] H (.agg (XN (l++ [endT])).cells) H:=fun H=>Yc (Zsg (l:=l++ [endT]) (by simp) (by simp;omega) true hNil) (by simp only [ZJ,hA'.frzG]) (Zz _ _ _) H
 have hat:=Znu [101,110,100] 5
 rw [ZE] at hat
 refine CallOk.free (bx':=[.cells 4 [(XN (l++ [endT])).cells]]) ?_ (by simp [ZI,hA.under]) (YP _ _) bx
 generalize XN (l++ [endT])=t at hc ⊢
 obtain ⟨k,nm,s,b,kz⟩:=t
 simp only [Tm.cells] at hc ⊢
 refine Ye (own:=fun _=>false) tOk fe198.ok ?_
 refine Wp.seq ?_
 repeat' first|refine Jc (hat _) ?_|refine Jc (hc _) ?_|refine Js ?_|refine JA ?_|refine Jo ?_|fail
 exact RetE.ret rfl rfl rfl
theorem Zsh (hs:s.length≤100000) (hd:ZB s=true):∀ H,CallOk E0 Tryz.prog 149 [.str s] H (.agg (YS s).cells) H:=by
 have hc:=c96 hs
 unfold Uj at hc
 rw [hd] at hc
 have h4:(ZG s).length≤4:=by
  unfold ZB at hd
  simp only [Bool.and_eq_true,decide_eq_true_eq] at hd
  exact hd.1
 unfold YS
 generalize ZG s=l at hc h4 ⊢
 have hc:∀ H,CallOk E0 Tryz.prog 96 [.str s] H (.sl .none 1 (ZM l)) H:=hc
 have hpl:(ZM l).length=l.length:=by simp [ZM]
 refine Jw tOk fe149.ok (Zz _ _ _) ?_
 repeat' first|refine Jc (hc _) ?_|refine Jo ?_|fail
 refine Wp.while (fun m tm H => ∃ (i : Nat) (base : TM) (out : PV) (lv : List Nat) (nt : Nat), i + m = l.length ∧ ApV true 4 (Za ((l.take i).map fun x => Yn x 4)) out lv nt ∧
   tm=ovr base [(2,.ptr 0 4 0 0),(3,out),(7,.sl .none 1 (ZM l)),(8,.int .i64 (l.length:Int)),(9,.int .i64 (i:Int))]∧H=⟨[.cells 4 [[.int .i64 0,.str [],.int .i64 0,.nils]]],0,lv,nt⟩)
  (fun m tm H hI=>?_) l.length _ _ ⟨0,_,_,_,_,by omega,.nil _ _ rfl,Zi ⟨rfl,rfl,rfl,Zj (by rw [← hpl];rfl),rfl,trivial⟩,rfl⟩
 obtain ⟨i,base,out,lv,nt,hi,hA,rfl,rfl⟩:=hI
 by_cases hlt:i<l.length
 · obtain ⟨x, hx⟩ : ∃ x, l[i]? = some x := ⟨l[i], by simp⟩
   have hia:=Zrv hx
   have hat:=Znu x 4
   have hlen1:((l.take i).map fun x=>Yn x 4).length≤4:=by rw [List.length_map,List.length_take];omega
   obtain ⟨out',lv',nt',hap,hA', -⟩:=hA.app YA (.sl .full 4 (Za [Yn x 4])) (Zs _) (ZZ (by simp only [Zb,List.length_cons,List.length_nil];omega) (by decide)) (ZC _)
   rw [← Zo] at hA'
   have hs:((l.take i).map fun x=>Yn x 4)++ [Yn x 4]=(l.take (i+1)).map fun x=>Yn x 4:=by simp [List.take_add_one,hx]
   rw [hs] at hA'
   rw [ZQ,ZE] at hap
   rw [ZE] at hat
   repeat' first|refine Jc (hat _) ?_|refine Js ?_|refine JA ?_|refine JJ ?_|refine Jz ?_ ?_|refine Jo ?_|intro hb
   · exact LoopI.go (m-1) (by omega) ⟨i+1,_,out',lv',nt',by omega,hA',Zi ⟨rfl,rfl,rfl,rfl,Zj (Zg (n:=i+1) (by omega)),trivial⟩,rfl⟩
   · exfalso;simp at hb;omega
 · have e : i = l.length := by omega
   subst e
   rw [List.take_length] at hA
   obtain ⟨lv',nt',he⟩:=ZrW hA (by rw [List.length_map];omega)
   generalize XN ((l.map fun x=>Yn x 4)++ [endT])=t at he ⊢
   obtain ⟨k',nm',s',b',kz'⟩:=t
   simp only [Tm.cells] at he ⊢
   repeat' first|refine Jc (he _) ?_|refine Jz ?_ ?_|refine Jo ?_|intro hb
   · exfalso;simp at hb
   · exact Z6 _ _ _ _ _ _ _
theorem Zsk (hs:∀ s,s∈l→s.length≤100000) (hd:∀ s,s∈l→ZB s=true) (hlen:l.length≤1000) (b:Bool):∀ H,CallOk E0 Tryz.prog 150 [slV b 1 (Y2 l)] H (.agg (XS l).cells) H:=by
 unfold XS
 refine Jw tOk fe150.ok (Zz _ _ _) ?_
 repeat' first|refine Jl ?_|refine Jo ?_|fail
 refine Wp.while (fun m tm H => ∃ (i : Nat) (base : TM) (out : PV) (lv : List Nat) (nt : Nat), i + m = l.length ∧ ApV true 4 (Za ((l.take i).map YS)) out lv nt ∧
   tm=ovr base [(2,.ptr 0 4 0 0),(3,out),(6,slV b 1 (Y2 l)),(7,.int .i64 (l.length:Int)),(8,.int .i64 (i:Int))]∧H=⟨[.cells 4 [[.int .i64 0,.str [],.int .i64 0,.nils]]],0,lv,nt⟩)
  (fun m tm H hI=>?_) l.length _ _ ⟨0,_,_,_,_,by omega,.nil _ _ rfl,Zi ⟨rfl,rfl,rfl,Zj (by rw [XP]),rfl,trivial⟩,rfl⟩
 obtain ⟨i,base,out,lv,nt,hi,hA,rfl,rfl⟩:=hI
 by_cases hlt:i<l.length
 · obtain ⟨x, hx⟩ : ∃ x, l[i]? = some x := ⟨l[i], by simp⟩
   have hj:=Q4 hx
   have hat:=Zsh (hs x (List.mem_of_getElem? hx)) (hd x (List.mem_of_getElem? hx))
   have hlen1:((l.take i).map YS).length≤1000:=by rw [List.length_map,List.length_take];omega
   obtain ⟨out',lv',nt',hap,hA', -⟩:=hA.app YA (.sl .full 4 (Za [YS x])) (Zs _) (ZZ (by simp only [Zb,List.length_cons,List.length_nil];omega) (by decide)) (ZC _)
   rw [← Zo] at hA'
   have hs:(l.take i).map YS++ [YS x]=(l.take (i+1)).map YS:=by simp [List.take_add_one,hx]
   rw [hs] at hA'
   rw [ZQ] at hap
   generalize YS x=t at hap hat
   obtain ⟨k',nm',s',b',kz'⟩:=t
   simp only [Tm.cells] at hat hap
   repeat' first|refine Jc (hat _) ?_|refine Js ?_|refine JA ?_|refine Jx ?_|refine Jz ?_ ?_|refine Jo ?_|intro hb
   · exact LoopI.go (m-1) (by omega) ⟨i+1,_,out',lv',nt',by omega,hA',Zi ⟨rfl,rfl,rfl,rfl,Zj (Zg (n:=i+1) (by omega)),trivial⟩,rfl⟩
   · exfalso;simp at hb;omega
 · have e : i = l.length := by omega
   subst e
   rw [List.take_length] at hA
   obtain ⟨lv',nt',he⟩:=ZrW hA (by rw [List.length_map];omega)
   generalize XN (l.map YS++ [endT])=t at he ⊢
   obtain ⟨k',nm',s',b',kz'⟩:=t
   simp only [Tm.cells] at he ⊢
   repeat' first|refine Jc (he _) ?_|refine Jz ?_ ?_|refine Jo ?_|intro hb
   · exfalso;simp at hb
   · exact Z6 _ _ _ _ _ _ _
open Go.RowKit Go.Sort
def ZmO (w:World):Prop:=∀ j,j<20→w.cell? ⟨3,j,none⟩=some (.int .u64 ((10 ^ j:Nat):Int))
theorem ZsW (u : Nat) (h1 : 1 ≤ u) (h2 : u < 18446744073709551616) (w : World) (htab : ZmO w) :
  Calls Tryz.prog 200 #[.int .u64 u] w fun e w'=>e= .returned (.int .i64 (Lib.nDigits u))∧w'=w:=by
 obtain ⟨hnd,h19⟩:=Lib.numDigits_eq u h1 h2
 have hL:Lib.bitLen u≤64:=Lib.bitLen_le u 64 (Nat.le_refl _) h2
 have hcell:=htab (Lib.l10 (Lib.bitLen u)) (by omega)
 have hto:((u:Int)).toNat=u:=by omega
 generalize hq:Lib.l10 (Lib.bitLen u)=q at hnd h19 hcell
 generalize hT:10 ^ q=T at hnd hcell
 have h20:q<20:=by omega
 have Hnd:=Lib.hid hnd
 clear hnd htab
 have mixed:=follows
 go_enter Tryz.func200,Tryz.ntmps200
 go_wp2_with (first
  | (go_at_call 242;refine (Tryz.bits_Len64 _ _ (by omega) (by omega)).mono ?_;rintro e w' ⟨rfl,rfl⟩)
  | (go_at_call 241;refine (Tryz.internal_strconv_log10Pow2 _ (by first|exact hL|(rw [hto];exact hL)) _).mono ?_;rintro e w' ⟨rfl,rfl⟩)
  | (go_at_call 243;refine (Tryz.internal_strconv_bool2_int _ _).mono ?_;rintro e w' ⟨rfl,rfl⟩))
 all_goals go_ret
 all_goals (
  refine ⟨?_,rfl⟩
  have hnd:=Hnd.out
  congr 2
  split at hnd<;>simp_all<;>omega)
theorem ZuN (u : Nat) (hu1 : 100 ≤ u) (hu2 : u ≤ 9999) (w : World) (htab : ZmO w) :
  Calls Tryz.prog 152 #[.int .i64 u,.int .i64 10] w fun e w'=>e= .returned (.string ⟨(Lib.decDigits u).toArray⟩)∧Below w.heap.size w w':=by
 have hu64:u<18446744073709551616:=by omega
 have hnd20:Lib.nDigits u≤20:=by have:=Lib.numDigits_eq u (by omega) hu64;split at this<;>omega
 have hb3:Lib.nDigits u≤23:=by omega
 have hlt:3<w.heap.size:=Lib.lt_of_cell (htab 0 (by omega))
 have htab2:ZmO (w.alloc (.cells Lib.zeros24 202)):=fun j hj=>by
  rw [← htab j hj]
  exact World.cell?_of_block (w:=w) (Below.heap_alloc w _ _ hlt)
 have hal:Tryz.prog.arrayLen 202=24:=by kernel_rfl
 have hsl1:∀ W,(Instr.sliceAt 202 (.pointer (some ⟨w.heap.size,0,none⟩)) (some (.int .i64 1)) (some (.int .i64 (1+(Lib.nDigits u:Int)))) none).run Tryz.prog W= .ok (.slice (some ⟨w.heap.size,1,none⟩) (Lib.nDigits u) 23) W:=fun W=>by
  rw [run_sliceAt_array_lh W 202 ⟨w.heap.size,0,none⟩ (by kernel_rfl) .i64 .i64 1 (1+(Lib.nDigits u:Int)) (by omega) (by omega) (by rw [hal];omega)]
  go_simp
  omega
 have hH0:=Lib.holds_zero w 202 (Lib.nDigits u) (by omega)
 have hfmt:=Tryz.internal_strconv_formatBase10 w.heap.size 1 23 u (Array.replicate (Lib.nDigits u) 0) (w.alloc (.cells Lib.zeros24 202)) hH0 (by rw [Array.size_replicate];exact Lib.lt_pow_nDigits u) hu64 (by rw [Array.size_replicate];omega)
 rw [Array.size_replicate] at hfmt
 have HH0:=Lib.hid hH0
 clear hH0 hal
 have mixed:=follows
 go_enter Tryz.func152,Tryz.ntmps152
 go_wp2_with (first
  | (go_at_call 200;refine (ZsW u (by omega) hu64 _ htab2).mono ?_;rintro e w' ⟨rfl,rfl⟩))
 go_at_call 201
 refine hfmt.mono ?_
 rintro e w' ⟨rfl,k,v',dk,rfl,hF⟩
 have hcv:(convert 164 9 (.slice (some ⟨w.heap.size,1,none⟩) (Lib.nDigits u) 23)).run Tryz.prog ((putRow (fun (b:UInt8)=>Value.int .u8 (b.toNat:Int)) (w.alloc (.cells Lib.zeros24 202)) w.heap.size 1 dk).drewN k)= .ok (.string ⟨(Lib.decDigits u).toArray⟩) ((putRow (fun (b:UInt8)=>Value.int .u8 (b.toNat:Int)) (w.alloc (.cells Lib.zeros24 202)) w.heap.size 1 dk).drewN k):=by
  have h:=run_convert_bytes_back (P:=Tryz.prog) ((putRow (fun (b:UInt8)=>Value.int .u8 (b.toNat:Int)) (w.alloc (.cells Lib.zeros24 202)) w.heap.size 1 dk).drewN k) 164 9 5 ⟨w.heap.size,1,none⟩ 23 (Lib.decDigits u) Tryz.underlying164 Tryz.underlying5 Tryz.underlying9 (fun j hj=>by
   rw [Lib.row_is_numeral hF j hj,Lib.add_plain,World.cell?_drewN]
   exact cell?_putRow (fun (b:UInt8)=>Value.int .u8 (b.toNat:Int)) _ w.heap.size 1 _ dk HH0.out (by rw [hF.size,Array.size_replicate]) j (by rw [hF.size];rw [Lib.decDigits_length] at hj;exact hj))
  rw [Lib.decDigits_length] at h
  exact h
 go_wp2
 go_ret
 obtain ⟨os,eo⟩:=Lib.fin_pos w (.cells Lib.zeros24 202) dk k
 refine ⟨rfl,?_⟩
 rw [eo]
 exact Zhd w k os
theorem ZuT (u : Nat) (hu : u < 100) (w : World) :
  Calls Tryz.prog 152 #[.int .i64 u,.int .i64 10] w fun e w'=>e= .returned (.string ⟨(Lib.decDigits u).toArray⟩)∧Below w.heap.size w w':=by
 have mixed:=follows
 go_enter Tryz.func152,Tryz.ntmps152
 go_wp2_with (go_at_call 199;refine (Tryz.internal_strconv_small u hu _).mono ?_;rintro e w' ⟨rfl,rfl⟩)
 go_ret
 exact ⟨rfl,Below.refl _ _⟩
theorem ZhT:∀ j,j<20→ZcY[j]? = some (.int .u64 ((10 ^ j:Nat):Int)):=by
 intro j hj
 rcases (show j=0∨j=1∨j=2∨j=3∨j=4∨j=5∨j=6∨j=7∨j=8∨j=9∨j=10∨j=11∨j=12∨j=13∨j=14∨j=15∨j=16∨j=17∨j=18∨j=19 by omega) with
  rfl|rfl|rfl|rfl|rfl|rfl|rfl|rfl|rfl|rfl|rfl|rfl|rfl|rfl|rfl|rfl|rfl|rfl|rfl|rfl<;>rfl
theorem Zsr {n:Int} (h0:0≤n) (h1:n≤9999):∀ H,CallOk E0 Tryz.prog 152 [.int .i64 n,.int .i64 10] H (.str (Lib.itoa n)) H:=by
 obtain ⟨u,rfl⟩:∃ u:Nat,n=(u:Int):=⟨n.toNat,by omega⟩
 refine QN fe152.ok rfl fun g w vals hst hg hv=>?_
 obtain ⟨v0,v1,rfl,e0,e1⟩:=VM hv
 obtain rfl:=e0.int_inv
 obtain rfl:=e1.int_inv
 refine ⟨.string ⟨(Lib.decDigits u).toArray⟩,.str _ _ (by rw [Lib.itoa_nonneg]),?_⟩
 by_cases hs:u<100
 · exact ZuT u hs w
 · exact ZuN u (by omega) (by omega) w fun j hj=>Zo0 hg (k:=3) rfl hst (ZhT j hj)
theorem Zit (s:Bs):Lib.trimPrefix s [110]=Qs s:=by
 cases s with
 |nil=>rfl
 | cons c r =>
   by_cases h:c=110
   · subst h;simp [Lib.trimPrefix,Lib.hasPrefix,Qs]
   · simp [Lib.trimPrefix, Lib.hasPrefix, Qs, h]
     exact fun e=>h e.symm
theorem ZpX (k s : Int) (nm : ByteArray) (kv : Value) (w : World) (hl : nm.size ≤ 1000000) (x1 : ∃ t p, w.cell? ⟨1, 0, none⟩ = some (.iface t p)) (x2 : ∃ t p, w.cell? ⟨2, 0, none⟩ = some (.iface t p)) :
  Calls Tryz.prog 58 #[.agg #[.int .i64 k,.string nm,.int .i64 s,kv]] w fun e w'=>e= .returned (.int .i64 (Vt nm.data.toList))∧Below w.heap.size w w':=by
 obtain ⟨t1,p1,x1⟩:=x1
 obtain ⟨t2,p2,x2⟩:=x2
 have l1:=Lib.lt_of_cell x1
 have l2:=Lib.lt_of_cell x2
 have hb0:Below w.heap.size w (w.alloc (.cells #[.int .i64 k,.string nm,.int .i64 s,kv] 26)):=(Below.refl _ _).alloc (Nat.le_refl _) _
 have y1:(w.alloc (.cells #[.int .i64 k,.string nm,.int .i64 s,kv] 26)).cell? ⟨1,0,none⟩=some (.iface t1 p1):=(hb0.cell l1).trans x1
 have y2:(w.alloc (.cells #[.int .i64 k,.string nm,.int .i64 s,kv] 26)).cell? ⟨2,0,none⟩=some (.iface t2 p2):=(hb0.cell l2).trans x2
 have hlen:(⟨(Lib.trimPrefix nm.data.toList [110]).toArray⟩:ByteArray).size≤1000000:=by
  rw [Zit]
  have h1:nm.data.toList.length=nm.size:=by simp
  have h2:(Qs nm.data.toList).length≤nm.data.toList.length:=by
   generalize nm.data.toList=z
   cases z with
   | nil=>simp [Qs]
   | cons c r=>simp only [Qs];split<;>simp
  have h3:(⟨(Qs nm.data.toList).toArray⟩:ByteArray).size=(Qs nm.data.toList).length:=by
   show (Qs nm.data.toList).toArray.size=_
   simp
  omega
 have hn:Vt nm.data.toList=match Lib.atoiAll (⟨(Lib.trimPrefix nm.data.toList [110]).toArray⟩:ByteArray).data.toList with| .ok v=>v|_=> -1:=by
  show (match Lib.atoiAll (Qs nm.data.toList) with| .ok v=>v|_=> -1)=_
  rw [Zit]
 rw [hn]
 clear hn
 have mixed:=follows
 cases h:Lib.atoiAll (⟨(Lib.trimPrefix nm.data.toList [110]).toArray⟩:ByteArray).data.toList
 · rename_i v
   have hA:=Tryz.strconv_Atoi_ok _ (by omega) v h
   go_enter Tryz.func58,Tryz.ntmps58
   go_wp2_with (first
    | (go_at_call 101;refine (Tryz.strings_TrimPrefix _ _ _).mono ?_;rintro e w' ⟨rfl,rfl⟩)
    | (go_at_call 100;refine (hA _).mono ?_;rintro e w' ⟨rfl,hW⟩))
   go_ret
   refine ⟨rfl,?_⟩
   rcases hW with rfl|⟨t,rfl⟩
   · exact hb0
   · exact hb0.trans ((Lib.bytesWorld_below _ _ _).mono hb0.size)
 · have hA := Tryz.strconv_Atoi_syntax (⟨(Lib.trimPrefix nm.data.toList [110]).toArray⟩ : ByteArray) (by omega) (fun v e => by rw [h] at e; cases e) (fun e => by rw [h] at e; cases e) _ _ y1 (.inr ⟨_, _, rfl⟩)
   go_enter Tryz.func58,Tryz.ntmps58
   go_wp2_with (first
    | (go_at_call 101;refine (Tryz.strings_TrimPrefix _ _ _).mono ?_;rintro e w' ⟨rfl,rfl⟩)
    | (go_at_call 100;refine hA.mono ?_;rintro e w' ⟨N,rfl, -, -,hb⟩))
   go_ret
   exact ⟨rfl,hb0.trans (hb.mono hb0.size)⟩
 · have hA := Tryz.strconv_Atoi_range _ (by omega) h _ _ y2 (.inr ⟨_, _, rfl⟩)
   go_enter Tryz.func58,Tryz.ntmps58
   go_wp2_with (first
    | (go_at_call 101;refine (Tryz.strings_TrimPrefix _ _ _).mono ?_;rintro e w' ⟨rfl,rfl⟩)
    | (go_at_call 100;refine hA.mono ?_;rintro e w' ⟨N,rfl, -, -,hb⟩))
   go_ret
   exact ⟨rfl,hb0.trans (hb.mono hb0.size)⟩
theorem c58 {t:Tm} (hl:t.nm.length≤1000000):∀ H,CallOk E0 Tryz.prog 58 [.agg t.cells] H (.int .i64 (Vt t.nm)) H:=by
 obtain ⟨k,nm,s,b,kz⟩:=t
 refine QN fe58.ok rfl fun g w vals hst hg hv=>?_
 obtain ⟨v0,rfl,e0⟩:=Zea hv
 obtain ⟨vs,hvl,rfl,hvs⟩:=e0.agg_inv
 have hvl:vs.size=4:=by simpa [Tm.cells] using hvl
 obtain ⟨a0,a1,a2,a3,rfl⟩:∃ a0 a1 a2 a3,vs= #[a0,a1,a2,a3]:=by
  obtain ⟨l⟩:=vs
  match l,hvl with
  | [a,b,c,d],_=>exact ⟨a,b,c,d,rfl⟩
 have z0:=hvs 0 (by simp [Tm.cells])
 have z1:=hvs 1 (by simp [Tm.cells])
 have z2:=hvs 2 (by simp [Tm.cells])
 simp only [Tm.cells,List.getElem_cons_zero,List.getElem_cons_succ,List.getElem_toArray] at z0 z1 z2
 obtain rfl:=z0.int_inv
 obtain ⟨sb,rfl,hsb⟩:=z1.str_inv
 obtain rfl:=z2.int_inv
 simp only [Tm.nm] at hl ⊢
 subst hsb
 refine ⟨_,.int _ _,ZpX k s sb a3 w (by simpa using hl) ?_ ?_⟩
 · obtain ⟨t, p, e⟩ := hg.2.2 1 rfl
   exact ⟨t,p,hst _ _ _ e⟩
 · obtain ⟨t, p, e⟩ := hg.2.2 2 rfl
   exact ⟨t,p,hst _ _ _ e⟩
