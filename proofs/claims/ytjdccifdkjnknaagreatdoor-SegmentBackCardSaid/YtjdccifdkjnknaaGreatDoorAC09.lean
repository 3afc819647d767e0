/- Joined by mergeK.py: Sh3 -/
import Derived.Test.YtjdccifdkjnknaaGreatDoorAC08
