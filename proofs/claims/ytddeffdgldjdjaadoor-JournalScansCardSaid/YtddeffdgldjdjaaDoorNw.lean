/- What the journal reads and what the document reads are the same: plain laws. -/
import Derived.Test.YtddeffdgldjdjaaDoorNv
import Derived.Test.YtddeffdgldjdjaaDoorNi
import Derived.Test.YtddeffdgldjdjaaDoorMj
namespace Go.Proofs.YtddeffdgldjdjaaDoor.W
set_option linter.unusedSimpArgs false
set_option linter.unusedVariables false
set_option linter.defProp false
open Go Go.Abs
set_option maxHeartbeats 16000000
theorem nmF3 (k s t : Int) : nmF [k,s,t] = putB [] k.toNat ++ (putB [] s.toNat ++ putB [] t.toNat):=by
  have : nmF [k,s,t] = putB (putB (putB [] k.toNat) s.toNat) t.toNat:=rfl
  rw [this,putB_behind (putB (putB [] k.toNat) s.toNat),putB_behind (putB [] k.toNat),List.append_assoc]
theorem nmF4 (k s t u : Int) : nmF [k,s,t,u] = putB [] k.toNat ++ (putB [] s.toNat ++ (putB [] t.toNat ++ putB [] u.toNat)):=by
  have : nmF [k,s,t,u] = putB (putB (putB (putB [] k.toNat) s.toNat) t.toNat) u.toNat:=rfl
  rw [this,putB_behind (putB (putB (putB [] k.toNat) s.toNat) t.toNat),putB_behind (putB (putB [] k.toNat) s.toNat),putB_behind (putB [] k.toNat),List.append_assoc,List.append_assoc]
def fulR (r : Rec) : Rec:={ r with e:=if r.k = 2 then fulE r.e else noE }
theorem rd_put {n : Int} (h : ¬ oob n) (t : List (BitVec 8)) : tkE (putB [] n.toNat ++ t) = 0 ∧ ((tkN (putB [] n.toNat ++ t) : Nat) : Int) = n ∧ tkR (putB [] n.toNat ++ t) = t:=by
  unfold oob at h
  obtain ⟨h1,h2,h3⟩:=take_put n.toNat t (by omega)
  exact ⟨h1,by rw [h2]; omega,h3⟩
theorem rd_put0 {n : Int} (h : ¬ oob n) : tkE (putB [] n.toNat) = 0 ∧ ((tkN (putB [] n.toNat) : Nat) : Int) = n ∧ tkR (putB [] n.toNat) = []:=by
  have:=rd_put h []
  rwa [List.append_nil] at this
theorem recX_put {r : Rec} (ho : recOK r) (h : (putF r).2 = 0) : ∃ b,putF r = (frB b,0) ∧ b.length ≤ 4096 ∧ recX b = some (fulR r):=by
  cases hm : mayR r with
  | false=>rw [putF_no hm] at h; cases h
  | true =>
    have hy:=putF_yes hm
    have hm2:=hm
    unfold mayR at hm2
    simp only [Bool.and_eq_true,Bool.not_eq_true'] at hm2
    obtain ⟨hm3,hm4⟩:=hm2
    have hin : ∀ x ∈ numL r,¬ oob x:=fun x hx h=>List.any_eq_false.1 hm4 x hx (decide_eq_true h)
    have fr : ∀ b,(frF b).2 = 0→frF b = (frB b,0) ∧ b.length ≤ 4096:=fun b hb=>by
      unfold frF at hb ⊢
      split
      · rename_i hl; exact ⟨rfl,hl⟩
      · rename_i hl; rw [if_neg hl] at hb; cases hb
    obtain ⟨k,i,t,n,hh,v,e⟩:=r
    dsimp only at hy h hm3 hin
    by_cases k1 : k = 1
    · subst k1
      have hL : numL ⟨1,i,t,n,hh,v,e⟩ = [hh,v]:=by simp [numL]
      rw [hL] at hy hin
      rw [if_neg (by decide)] at hy
      have hz : i = 0 ∧ t = 0 ∧ n = 0:=by
        simp only [numM] at hm3
        simp at hm3
        omega
      obtain ⟨rfl,rfl,rfl⟩:=hz
      rw [hy] at h
      obtain ⟨f1,f2⟩:=fr _ h
      refine ⟨_,hy.trans f1,f2,?_⟩
      have p1 : ¬ oob 1:=by unfold oob; omega
      rw [nmF3]
      obtain ⟨a1,a2,a3⟩:=rd_put p1 (putB [] hh.toNat ++ putB [] v.toNat)
      obtain ⟨b1,b2,b3⟩:=rd_put (hin hh (by simp)) (putB [] v.toNat)
      obtain ⟨c1,c2,c3⟩:=rd_put0 (hin v (by simp))
      have a4 : tkN (putB [] (1 : Int).toNat ++ (putB [] hh.toNat ++ putB [] v.toNat)) = 1:=by omega
      rw [recX,if_neg (not_not_intro a1),if_pos a4,a3,if_neg (not_not_intro b1),b3,if_neg (not_not_intro c1),b2,c2]
      rfl
    by_cases k2 : k = 2
    · subst k2
      have hL : numL ⟨2,i,t,n,hh,v,e⟩ = [i]:=by simp [numL]
      rw [hL] at hy hin
      rw [if_pos rfl] at hy
      have hz : t = 0 ∧ n = 0 ∧ hh = 0 ∧ v = 0:=by
        simp only [numM] at hm3
        simp at hm3
        omega
      obtain ⟨rfl,rfl,rfl,rfl⟩:=hz
      by_cases e0 : (entR e).2 = 0
      rotate_left
      · rw [if_pos e0] at hy; rw [hy] at h; exact absurd h e0
      rw [if_neg (not_not_intro e0)] at hy
      by_cases hX : 4096 < (entR e).1.length
      · rw [if_pos hX] at hy; rw [hy] at h; cases h
      rw [if_neg hX] at hy
      rw [hy] at h
      obtain ⟨f1,f2⟩:=fr _ h
      refine ⟨_,hy.trans f1,f2,?_⟩
      have p1 : ¬ oob 2:=by unfold oob; omega
      obtain ⟨g1,g2⟩:=read_ent ho.1 e0
      rw [txB_behind,nmF2,List.append_assoc]
      generalize (entR e).1 = X at hX g1 g2 ⊢
      obtain ⟨a1,a2,a3⟩:=rd_put p1 (putB [] i.toNat ++ (putB [] X.length ++ X))
      obtain ⟨b1,b2,b3⟩:=rd_put (hin i (by simp)) (putB [] X.length ++ X)
      obtain ⟨c1,c2,c3⟩:=tt_put X [] (m:=4096) (by omega) (by omega)
      rw [List.append_nil] at c1 c2
      have a4 : tkN (putB [] (2 : Int).toNat ++ (putB [] i.toNat ++ (putB [] X.length ++ X))) = 2:=by omega
      rw [recX,if_neg (not_not_intro a1),if_neg (by omega),if_pos a4,a3,if_neg (not_not_intro b1),b3,if_neg (not_not_intro c1),c2,if_pos g1,b2,g2]
      rfl
    by_cases k3 : k = 3
    · subst k3
      have hL : numL ⟨3,i,t,n,hh,v,e⟩ = [i,t,n]:=by simp [numL]
      rw [hL] at hy hin
      rw [if_neg (by decide)] at hy
      have hz : hh = 0 ∧ v = 0:=by
        simp only [numM] at hm3
        simp at hm3
        omega
      obtain ⟨rfl,rfl⟩:=hz
      rw [hy] at h
      obtain ⟨f1,f2⟩:=fr _ h
      refine ⟨_,hy.trans f1,f2,?_⟩
      have p1 : ¬ oob 3:=by unfold oob; omega
      rw [nmF4]
      obtain ⟨a1,a2,a3⟩:=rd_put p1 (putB [] i.toNat ++ (putB [] t.toNat ++ putB [] n.toNat))
      obtain ⟨b1,b2,b3⟩:=rd_put (hin i (by simp)) (putB [] t.toNat ++ putB [] n.toNat)
      obtain ⟨c1,c2,c3⟩:=rd_put (hin t (by simp)) (putB [] n.toNat)
      obtain ⟨d1,d2,d3⟩:=rd_put0 (hin n (by simp))
      have a4 : tkN (putB [] (3 : Int).toNat ++ (putB [] i.toNat ++ (putB [] t.toNat ++ putB [] n.toNat))) = 3:=by omega
      rw [recX,if_neg (not_not_intro a1),if_neg (by omega),if_neg (by omega),if_pos a4,a3,if_neg (not_not_intro b1),b3,if_neg (not_not_intro c1),c3,if_neg (not_not_intro d1),b2,c2,d2]
      rfl
    · exfalso
      simp [numM,k1,k2,k3] at hm3
theorem recX_ref {b : List (BitVec 8)} {r : Rec} (h : recX b = some r) : refX b = r:=by
  unfold recX at h
  unfold refX
  split at h
  · cases h
  · split at h
    · rename_i c
      rw [if_pos c]
      split at h
      · cases h
      · split at h
        · cases h
        · cases h; rfl
    · rename_i c
      rw [if_neg c]
      split at h
      · rename_i c2
        rw [if_pos c2]
        split at h
        · cases h
        · split at h
          · cases h
          · split at h
            · rename_i hE
              cases h
              rw [tnF,if_pos hE]
            · cases h
      · rename_i c2
        rw [if_neg c2]
        split at h
        · rename_i c3
          rw [if_pos c3]
          split at h
          · cases h
          · split at h
            · cases h
            · split at h
              · cases h
              · cases h; rfl
        · cases h
def refS (b : List (BitVec 8)) : Rec × Nat :=
  if ttE b 4096 ≠ 0 then (noRec,0)
  else if (putF (refX (ttT b 4096))).2 = 0 ∧ preB b (putF (refX (ttT b 4096))).1 = true then (refX (ttT b 4096),(putF (refX (ttT b 4096))).1.length) else (noRec,0)
theorem pre_tt {b B : List (BitVec 8)} (hB : B.length ≤ 4096) (h : preB b (frB B) = true) : ttE b 4096 = 0 ∧ ttT b 4096 = B:=by
  simp only [preB,Bool.and_eq_true,decide_eq_true_eq] at h
  obtain ⟨h1,h2⟩:=h
  have e : b = putB [] B.length ++ B ++ ((shaB B).take 4 ++ b.drop (frB B).length):=by
    conv=>lhs; rw [← List.take_append_drop (frB B).length b,h2]
    rw [frB,txB]
    simp only [List.append_assoc]
  obtain ⟨c1,c2,_⟩:=tt_put B ((shaB B).take 4 ++ b.drop (frB B).length) (m:=4096) (by omega) hB
  rw [← e] at c1 c2
  exact ⟨c1,c2⟩
theorem refS_is {b : List (BitVec 8)} (hl : b.length ≤ 150000000000000) : oneS b = refS b:=by
  unfold oneS oneX refS
  split
  · rfl
  · have hT := ttT_le b 4096
    split
    · rename_i hn
      split
      · rename_i hq
        exfalso
        obtain ⟨B,p1,p2,p3⟩:=recX_put (refX_ok (b:=ttT b 4096) (by omega)) hq.1
        rw [p1] at hq
        have:=(pre_tt p2 hq.2).2
        rw [this,p3] at hn
        cases hn
      · rfl
    · rename_i r hr
      rw [recX_ref hr]
      split <;> rfl
theorem tt_front {b : List (BitVec 8)} {m : Nat} (hm : 4116 ≤ m) : (ttE (b.take m) 4096 = 0 ↔ ttE b 4096 = 0) ∧ ttT (b.take m) 4096 = ttT b 4096:=by
  have key : ∀ {x y : List (BitVec 8)},x = y.take m→ttE x 4096 = 0→ttE y 4096 = 0 ∧ ttT y 4096 = ttT x 4096:=fun {x y} hx h=>by
    obtain ⟨h1,h2⟩:=put_tt x h
    generalize ttT x 4096 = T at h1 h2 ⊢
    have e : y = putB [] T.length ++ T ++ (ttR x 4096 ++ y.drop m):=by
      conv=>lhs; rw [← List.take_append_drop m y,← hx,← h2]
      simp only [List.append_assoc]
    obtain ⟨c1,c2,_⟩:=tt_put T (ttR x 4096 ++ y.drop m) (m:=4096) (by omega) h1
    rw [← e] at c1 c2
    exact ⟨c1,c2⟩
  have key2 : ttE b 4096 = 0→ttE (b.take m) 4096 = 0 ∧ ttT (b.take m) 4096 = ttT b 4096:=fun h=>by
    obtain ⟨h1,h2⟩:=put_tt b h
    have h3 : (putB [] (ttT b 4096).length).length ≤ 20:=by
      have:=need_le (ttT b 4096).length (by omega)
      rw [putB_len]
      simp
      omega
    generalize ttT b 4096 = T at h1 h2 h3 ⊢
    have e : b.take m = putB [] T.length ++ T ++ ((ttR b 4096).take (m - (putB [] T.length ++ T).length)):=by
      conv=>lhs; rw [← h2]
      rw [List.take_append,List.take_of_length_le (by rw [List.length_append]; omega)]
    obtain ⟨c1,c2,_⟩:=tt_put T ((ttR b 4096).take (m - (putB [] T.length ++ T).length)) (m:=4096) (by omega) h1
    rw [← e] at c1 c2
    exact ⟨c1,c2⟩
  by_cases h : ttE b 4096 = 0
  · exact ⟨⟨fun _=>h,fun _=>(key2 h).1⟩,(key2 h).2⟩
  · have hn : ¬ ttE (b.take m) 4096 = 0 := fun h' => h (key rfl h').1
    refine ⟨⟨fun h'=>absurd h' hn,fun h'=>absurd h' h⟩,?_⟩
    rw [ttT,if_neg hn,ttT,if_neg h]
end Go.Proofs.YtddeffdgldjdjaaDoor.W
